/-
  The reference's reader: expr, but for the call with arguments.
-/
import Derived.Test.YtbjagceopgofiaaDoorReadB
import Derived.Test.YtbjagceopgofiaaDoorTwo
import Derived.Test.YtbjagceopgofiaaDoorPlainC
namespace Go.Proofs.YtbjagceopgofiaaDoor
open Go.RowKit

section
variable {ts : List Tok} {en : Nat}
theorem list_le : ∀ (f i : Nat) (acc r : List Int) (j : Nat), listM ts en f i acc = some (.ok (r, j)) → j ≤ ts.length
  | 0, i, acc, r, j, h => by unfold listM at h; cases h
  | f + 1, i, acc, r, j, h => by
    unfold listM at h
    split at h
    · injection h with h; cases h
    · split at h
      · injection h with h; cases h
      · split at h
        · rename_i h3
          injection h with h; injection h with h; injection h with h1 h2
          have := isT_lt h3
          omega
        · split at h
          · exact list_le f _ _ _ _ h
          · injection h with h; cases h
theorem both_le : ∀ (f : Nat), (∀ d i nd x j nd', exprM ts en f d i nd = some (.ok (x, j, nd')) → j ≤ ts.length) ∧ (∀ d i nd acc qs j nd', argsM ts en f d i nd acc = some (.ok (qs, j, nd')) → j ≤ ts.length) := by
  intro f
  induction f with
  | zero => exact ⟨fun d i nd x j nd' h => (by unfold exprM at h; cases h), fun d i nd acc qs j nd' h => (by unfold argsM at h; cases h)⟩
  | succ f ih =>
    refine ⟨fun d i nd x j nd' h => ?_, fun d i nd acc qs j nd' h => ?_⟩
    · unfold exprM at h
      split at h
      · injection h with h; cases h
      · rename_i hk
        split at h
        · injection h with h; cases h
        · split at h
          · split at h
            · rename_i h3
              injection h with h; injection h with h; injection h with h1 h2; injection h2 with h2 h4
              have := isT_lt h3
              omega
            · split at h
              · cases h
              · injection h with h; cases h
              · rename_i l j' hl
                injection h with h; injection h with h; injection h with h1 h2; injection h2 with h2 h4
                have := list_le _ _ _ _ _ hl
                omega
          · rename_i hb
            have hi : i < ts.length := kindT_lt (fun h0 => hk ⟨by omega, by omega, by simpa using hb⟩)
            split at h
            · injection h with h; injection h with h; injection h with h1 h2; injection h2 with h2 h4
              omega
            · split at h
              · injection h with h; injection h with h; injection h with h1 h2; injection h2 with h2 h4
                omega
              · split at h
                · cases h
                · injection h with h; cases h
                · rename_i qs j' nd2 ha
                  injection h with h; injection h with h; injection h with h1 h2; injection h2 with h2 h4
                  have := ih.2 _ _ _ _ _ _ _ ha
                  omega
    · unfold argsM at h
      split at h
      · rename_i h3
        injection h with h; injection h with h; injection h with h1 h2; injection h2 with h2 h4
        have := isT_lt h3
        omega
      · split at h
        · injection h with h; cases h
        · split at h
          · cases h
          · injection h with h; cases h
          · exact ih.2 _ _ _ _ _ _ _ h
end
def rexprPost (w : World) (A : Option Addr) (c : Nat) (ts : List Tok) (en : Nat) (r : Except (Nat × Nat) (E × Nat × Nat)) (x : Ending) (w' : World) : Prop :=
  match r with
  | .ok (y, j, nd) => ∃ cs, x = .returned (.tuple #[.agg cs.toArray, .agg (rdV A c ts.length en j nd 0 0)]) ∧ ExprC w' (fun b => w.heap.size ≤ b) y cs ∧ Below w.heap.size w w'
  | .error (er, p) => ∃ (k : Int) (nm : ByteArray) (n : Int) (la : Option Addr) (ll lc : Nat) (aa : Option Addr) (al ac i' nd' : Nat), x = .returned (.tuple #[.agg #[.int .i64 k, .string nm, .int .i64 n, .slice la ll lc, .slice aa al ac], .agg (rdV A c ts.length en i' nd' er p)]) ∧ Below w.heap.size w w'
/-- In the midst of expr: the reader's copy, the two results' blocks. -/
def EX (w : World) (A : Option Addr) (c : Nat) (ts : List Tok) (en i nd : Nat) (wx : World) : Prop :=
  RSt w w.heap.size (w.heap.size + 2) A c ts en i nd wx ∧ wx.heap[w.heap.size + 1]? = some (.cells zeroE 26 (0, 0))
section
variable {w wx w' : World} {A : Option Addr} {c : Nat} {ts : List Tok} {en i nd : Nat}
theorem EX.grow (h : EX w A c ts en i nd wx) (hb : Below wx.heap.size wx w') : EX w A c ts en i nd w' := ⟨h.1.grow hb, (hb.block _ (Array.getElem?_eq_some_iff.1 h.2).1).trans h.2⟩
theorem EX.next (h : EX w A c ts en i nd wx) (hT : TA w A ts) : EX w A c ts en (i + 1) nd (wx.setCell ⟨w.heap.size, 2, none⟩ (.int .i64 ((i : Int) + 1))) :=
  ⟨h.1.next hT (Nat.le_refl _) (by omega), (Below.heap_setCell _ _ _ _ (by show w.heap.size + 1 ≠ w.heap.size; omega)).trans h.2⟩
theorem EX.node (h : EX w A c ts en i nd wx) (hT : TA w A ts) : EX w A c ts en i (nd + 1) (wx.setCell ⟨w.heap.size, 3, none⟩ (.int .i64 ((nd : Int) + 1))) :=
  ⟨h.1.node hT (Nat.le_refl _) (by omega), (Below.heap_setCell _ _ _ _ (by show w.heap.size + 1 ≠ w.heap.size; omega)).trans h.2⟩
theorem EX.start (h : TA w A ts) : EX w A c ts en i nd (((w.alloc (.cells (rdV A c ts.length en i nd 0 0) RdT)).alloc (.cells zeroE 26)).alloc (.cells zeroR RdT)) := by
  have s1 : (w.alloc (.cells (rdV A c ts.length en i nd 0 0) RdT)).heap.size = w.heap.size + 1 := World.size_alloc _ _
  have s2 : ((w.alloc (.cells (rdV A c ts.length en i nd 0 0) RdT)).alloc (.cells zeroE 26)).heap.size = w.heap.size + 2 := by rw [World.size_alloc, s1]
  have hb : Below w.heap.size w (((w.alloc (.cells (rdV A c ts.length en i nd 0 0) RdT)).alloc (.cells zeroE 26)).alloc (.cells zeroR RdT)) :=
    (((Below.refl _ _).alloc (Nat.le_refl _) _).alloc (by rw [s1]; omega) _).alloc (by rw [s2]; omega) _
  refine ⟨⟨?_, ?_, h.grow hb, hb⟩, ?_⟩
  · rw [Lib.alloc_old _ _ _ (by omega), Lib.alloc_old _ _ _ (by omega)]; exact heap_alloc_new _ _
  · rw [← s2]; exact heap_alloc_new _ _
  · rw [Lib.alloc_old _ _ _ (by omega), ← s1]; exact heap_alloc_new _ _
end
theorem results_row_row {P : Program} {fn : Func} {p q : Tmp} {ty ty2 : TypeId} (h : fn.results = #[.cell p ty, .cell q ty2]) (tmps : Array Value) (w : World) (g g2 : Nat) (t t2 : TypeId) (cs cs2 : Array Value) (fr fr2 : Nat × Nat) (d d2 : TypeDesc)
    (hp : tmps.getD p undef = .pointer (some ⟨g, 0, none⟩)) (hq : tmps.getD q undef = .pointer (some ⟨g2, 0, none⟩)) (hg : w.heap[g]? = some (.cells cs t fr)) (hg2 : w.heap[g2]? = some (.cells cs2 t2 fr2))
    (hu : P.underlying ty = some d) (hd : (match d with | .struct _ | .array _ _ => true | _ => false) = true) (hi : (P.info? ty).map (·.size) = some cs.size)
    (hu2 : P.underlying ty2 = some d2) (hd2 : (match d2 with | .struct _ | .array _ _ => true | _ => false) = true) (hi2 : (P.info? ty2).map (·.size) = some cs2.size) :
    (results fn tmps).run P w = .ok (.tuple #[.agg cs, .agg cs2]) w := by
  have hp' : tmps[p]?.getD undef = .pointer (some ⟨g, 0, none⟩) := by simpa using hp
  have hq' : tmps[q]?.getD undef = .pointer (some ⟨g2, 0, none⟩) := by simpa using hq
  simp [results, h, hp', hq', asAddr, run_loadVar_row w g t ty cs fr d hg hu hd hi, run_loadVar_row w g2 t2 ty2 cs2 fr2 d2 hg2 hu2 hd2 hi2]
/-- The two results are stored. -/
theorem EX.stored {w wx : World} {A : Option Addr} {c : Nat} {ts : List Tok} {en i nd : Nat} (h : EX w A c ts en i nd wx) (cs rs : Array Value) :
    ((wx.setRow (w.heap.size + 1) cs).setRow (w.heap.size + 2) rs).heap[w.heap.size + 1]? = some (.cells cs 26 (0, 0)) ∧ ((wx.setRow (w.heap.size + 1) cs).setRow (w.heap.size + 2) rs).heap[w.heap.size + 2]? = some (.cells rs RdT (0, 0)) ∧
    (wx.setRow (w.heap.size + 1) cs).heap[w.heap.size + 2]? = some (.cells zeroR RdT (0, 0)) ∧ Below w.heap.size w ((wx.setRow (w.heap.size + 1) cs).setRow (w.heap.size + 2) rs) := by
  have h1 : (wx.setRow (w.heap.size + 1) cs).heap[w.heap.size + 2]? = some (.cells zeroR RdT (0, 0)) := (setRow_other _ _ _ _ (by omega)).trans h.1.2.1
  exact ⟨(setRow_other _ _ _ _ (by omega)).trans (setRow_heap _ _ _ _ _ _ h.2), setRow_heap _ _ _ _ _ _ h1, h1, below_setRow (below_setRow h.1.2.2.2 (by omega) _) (by omega) _⟩

/-- What a drawn 'return' of two structs knows: before its first store, and behind it. -/
def SZ (w6 : World) (g : Nat) (cs : Array Value) (w' : World) : Prop := ∃ w5, SBel w6 w5 ∧ w' = w5.setRow g cs
theorem sz_block {w6 w' : World} {g : Nat} {cs : Array Value} (h : SBel w6 w' ∨ SZ w6 g cs w') {b : Nat} (hb : b < w6.heap.size) (hne : b ≠ g) : w'.heap[b]? = w6.heap[b]? := by
  rcases h with h | ⟨w5, h, rfl⟩
  · exact Below.block h b hb
  · exact (setRow_other _ _ _ _ hne).trans (Below.block h b hb)
theorem sz_cell {w6 w' : World} {g : Nat} {cs : Array Value} (h : SBel w6 w' ∨ SZ w6 g cs w') {b o : Nat} {v : Value} (hc : w6.cell? ⟨b, o, none⟩ = some v) (hne : b ≠ g) : w'.cell? ⟨b, o, none⟩ = some v :=
  (World.cell?_of_block (a := ⟨b, o, none⟩) (sz_block h (World.block_lt_of_cell? _ _ hc) hne)).trans hc
theorem sz_range {w6 w' : World} {g : Nat} {cs : Array Value} (h : SBel w6 w' ∨ SZ w6 g cs w') {b o : Nat} {l : List Value} (hr : w6.rangeAt b o l) (hb : b < w6.heap.size) (hne : b ≠ g) : w'.rangeAt b o l :=
  fun j v hv => (World.cell?_of_block (a := ⟨b, o + j, none⟩) (sz_block h hb hne)).trans (hr j v hv)
theorem two_store_row {P : Program} {ops : Array Oper} {m : Nat} {Q : Act → Prop} {a : Act} {o : Oper} {rest : List Oper} (hgd : o.guard = none) (ty : TypeId) (x y : Operand) (ho : o.op = .store ty x y) (w6 : World)
    (g : Nat) (cells : Array Value) (hx : a.eval x = .pointer (some ⟨g, 0, none⟩)) (hy : a.eval y = .agg cells)
    (t : TypeId) (old : Array Value) (hg : w6.heap[g]? = some (.cells old t (0, 0))) (hi : (P.info? ty).map (·.size) = some cells.size)
    (hold : old.size = cells.size) (h1 : cells.all (·.oneCell') = true)
    (h : wpKeepT P ops (SBel w6) (SZ w6 g cells) m Q (m + 1) rest (a.put o.dst undef)) : wpKeepT P ops (SBel w6) (SZ w6 g cells) m Q m (o :: rest) a := by
  refine ⟨undef, .inl ⟨by simp [Region.wanted, hgd], ?_⟩, h⟩
  rw [if_pos rfl]
  intro w hS
  have hg' : w.heap[g]? = some (.cells old t (0, 0)) := (Below.block hS g (Array.getElem?_eq_some_iff.1 hg).1).trans hg
  unfold execOp
  simp only [ho, hx, hy, Instr.storeAt, Instr.sureAddr, Sem.run_bind, Sem.run_pure, Result.andThen_ok, run_storeVar_row w g t ty old cells hg' hi hold h1]
  exact ⟨rfl, w, hS, rfl⟩
theorem cells6 {w : World} {b : Nat} {v0 v1 v2 v3 v4 v5 : Value} {t : TypeId} {fr : Nat × Nat} (h : w.heap[b]? = some (.cells #[v0, v1, v2, v3, v4, v5] t fr)) :
    w.cell? ⟨b, 0, none⟩ = some v0 ∧ w.cell? ⟨b, 1, none⟩ = some v1 ∧ w.cell? ⟨b, 2, none⟩ = some v2 ∧ w.cell? ⟨b, 3, none⟩ = some v3 ∧ w.cell? ⟨b, 4, none⟩ = some v4 ∧ w.cell? ⟨b, 5, none⟩ = some v5 :=
  ⟨cell_of_row _ _ 0 _ _ _ h, cell_of_row _ _ 1 _ _ _ h, cell_of_row _ _ 2 _ _ _ h, cell_of_row _ _ 3 _ _ _ h, cell_of_row _ _ 4 _ _ _ h, cell_of_row _ _ 5 _ _ _ h⟩
theorem setRow_size (w : World) (g : Nat) (cs : Array Value) : (w.setRow g cs).heap.size = w.heap.size := by simp [World.setRow]

set_option maxHeartbeats 8000000 in
set_option maxRecDepth 100000 in
theorem rexpr_syntax {A : Option Addr} {c : Nat} {ts : List Tok} {en i nd : Nat} (d : Nat) (w : World) (h : TA w A ts) (hl : ts.length ≤ 65536) (hi : i ≤ ts.length) (_hd : d ≤ 33) (_hnd : nd ≤ 1024) (hk : kindT ts i = 0 ∨ kindT ts i = 3) (hk3 : isT ts i 91 = false) :
    Calls Tryd.prog 30 #[.agg (rdV A c ts.length en i nd 0 0), .int .i64 d] w (rexprPost w A c ts en (.error (14, atT ts en i))) := by
  have HK3 := Lib.hid hk3
  clear hk3
  have HT := Lib.hid h
  have HS0 := Lib.hid (EX.start (c := c) (en := en) (i := i) (nd := nd) h)
  clear h
  go_enter Tryd.func30, Tryd.ntmps30
  go_upto_region 1 with fail
  change Code.wp _ _ _ _ (((w.alloc (.cells (rdV A c ts.length en i nd 0 0) RdT)).alloc (.cells zeroE 26)).alloc (.cells zeroR RdT))
  generalize ((w.alloc (.cells (rdV A c ts.length en i nd 0 0) RdT)).alloc (.cells zeroE 26)).alloc (.cells zeroR RdT) = W at *
  go_wp2_with (refine wpList_load_mid rfl RdT (.tmp 2) rfl w.heap.size 0 rfl [.slice A ts.length c, .int .i64 en, .int .i64 i, .int .i64 nd, .int .i64 0, .int .i64 0] _ HS0.out.1.range Tryd.underlying55 rfl rdSize ?_)
  refine (rkind_c (i := i) W HS0.out.1.2.2.1 hl (by omega)).mono ?_
  rintro e w1 ⟨rfl, hb⟩
  have HS1 := Lib.hid (HS0.out.grow hb)
  clear hb HS0
  clear W
  rcases hk with hk | hk
  · rw [hk]
    go_wp2_with (refine wpList_load_mid rfl RdT (.tmp 2) rfl w.heap.size 0 rfl [.slice A ts.length c, .int .i64 en, .int .i64 i, .int .i64 nd, .int .i64 0, .int .i64 0] _ HS1.out.1.range Tryd.underlying55 rfl rdSize ?_)
    refine (rfail_c (i := i) 14 w1 HS1.out.1.2.2.1 hl (by omega)).mono ?_
    rintro e w8 ⟨rfl, hb⟩
    have HS8 := Lib.hid (HS1.out.grow hb)
    clear hb
    obtain ⟨g1, g2, g3, g4⟩ := HS8.out.stored zeroE (rdV A c ts.length en i nd 14 (atT ts en i))
    have G3 := Lib.hid g3
    go_wp2_with (first
      | (refine wpList_store_row rfl 26 (.tmp 4) (.tmp 25) rfl (w.heap.size + 1) zeroE rfl rfl 26 _ HS8.out.2 exprSize rfl (by simp [zeroE, Value.oneCell']) ?_)
      | (refine wpList_store_row rfl RdT (.tmp 5) (.tmp 27) rfl (w.heap.size + 2) (rdV A c ts.length en i nd 14 (atT ts en i)) rfl rfl RdT _ G3.out rdSize rfl (by simp [Value.oneCell']) ?_))
    refine bodyPost_ret (results_row_row (P := Tryd.prog) Tryd.results30 _ _ (w.heap.size + 1) (w.heap.size + 2) 26 RdT zeroE (rdV A c ts.length en i nd 14 (atT ts en i)) (0, 0) (0, 0) _ _ rfl rfl g1 g2 Tryd.underlying26 rfl exprSize Tryd.underlying55 rfl rdSize) rfl ?_
    exact ⟨0, ⟨#[]⟩, 0, none, 0, 0, none, 0, 0, i, nd, rfl, g4⟩
  · rw [hk]
    obtain ⟨c0, c1, c2, c3, c4, c5⟩ := cells6 HS1.out.1.1
    go_wp2_with fail
    refine (ris_c (i := i) 91 w1 HS1.out.1.2.2.1 hl (by omega)).mono ?_
    rintro e w2 ⟨rfl, hb⟩
    rw [HK3.out]
    have HS2 := Lib.hid (HS1.out.grow hb)
    clear hb HS1 c0 c1 c2 c3 c4 c5
    clear w1
    go_wp2_with (refine wpList_load_mid rfl RdT (.tmp 2) rfl w.heap.size 0 rfl [.slice A ts.length c, .int .i64 en, .int .i64 i, .int .i64 nd, .int .i64 0, .int .i64 0] _ HS2.out.1.range Tryd.underlying55 rfl rdSize ?_)
    refine (rfail_c (i := i) 14 w2 HS2.out.1.2.2.1 hl (by omega)).mono ?_
    rintro e w8 ⟨rfl, hb⟩
    have HS8 := Lib.hid (HS2.out.grow hb)
    clear hb
    obtain ⟨g1, g2, g3, g4⟩ := HS8.out.stored zeroE (rdV A c ts.length en i nd 14 (atT ts en i))
    have G3 := Lib.hid g3
    go_wp2_with (first
      | (refine wpList_store_row rfl 26 (.tmp 4) (.tmp 25) rfl (w.heap.size + 1) zeroE rfl rfl 26 _ HS8.out.2 exprSize rfl (by simp [zeroE, Value.oneCell']) ?_)
      | (refine wpList_store_row rfl RdT (.tmp 5) (.tmp 27) rfl (w.heap.size + 2) (rdV A c ts.length en i nd 14 (atT ts en i)) rfl rfl RdT _ G3.out rdSize rfl (by simp [Value.oneCell']) ?_))
    refine bodyPost_ret (results_row_row (P := Tryd.prog) Tryd.results30 _ _ (w.heap.size + 1) (w.heap.size + 2) 26 RdT zeroE (rdV A c ts.length en i nd 14 (atT ts en i)) (0, 0) (0, 0) _ _ rfl rfl g1 g2 Tryd.underlying26 rfl exprSize Tryd.underlying55 rfl rdSize) rfl ?_
    exact ⟨0, ⟨#[]⟩, 0, none, 0, 0, none, 0, 0, i, nd, rfl, g4⟩
set_option maxHeartbeats 8000000 in
set_option maxRecDepth 100000 in
theorem rexpr_big {A : Option Addr} {c : Nat} {ts : List Tok} {en i nd : Nat} (d : Nat) (w : World) (h : TA w A ts) (hl : ts.length ≤ 65536) (hi : i ≤ ts.length) (hd : d ≤ 33) (hnd : nd ≤ 1024) (hk : kindT ts i = 1 ∨ kindT ts i = 2 ∨ kindT ts i = 3) (hk3 : kindT ts i = 3 → isT ts i 91 = true) (hbig : 32 < d ∨ nd = 1024) :
    Calls Tryd.prog 30 #[.agg (rdV A c ts.length en i nd 0 0), .int .i64 d] w (rexprPost w A c ts en (.error (8, atT ts en i))) := by
  have HT := Lib.hid h
  have HS0 := Lib.hid (EX.start (c := c) (en := en) (i := i) (nd := nd) h)
  clear h
  go_enter Tryd.func30, Tryd.ntmps30
  go_upto_region 1 with fail
  change Code.wp _ _ _ _ (((w.alloc (.cells (rdV A c ts.length en i nd 0 0) RdT)).alloc (.cells zeroE 26)).alloc (.cells zeroR RdT))
  generalize ((w.alloc (.cells (rdV A c ts.length en i nd 0 0) RdT)).alloc (.cells zeroE 26)).alloc (.cells zeroR RdT) = W at *
  go_wp2_with (refine wpList_load_mid rfl RdT (.tmp 2) rfl w.heap.size 0 rfl [.slice A ts.length c, .int .i64 en, .int .i64 i, .int .i64 nd, .int .i64 0, .int .i64 0] _ HS0.out.1.range Tryd.underlying55 rfl rdSize ?_)
  refine (rkind_c (i := i) W HS0.out.1.2.2.1 hl (by omega)).mono ?_
  rintro e w1 ⟨rfl, hb⟩
  have HS1 := Lib.hid (HS0.out.grow hb)
  clear hb HS0
  clear W
  rcases hk with hk | hk | hk
  · rw [hk]
    clear hk3
    by_cases hdd : 32 < d
    · go_wp2_with (refine wpList_load_mid rfl RdT (.tmp 2) rfl w.heap.size 0 rfl [.slice A ts.length c, .int .i64 en, .int .i64 i, .int .i64 nd, .int .i64 0, .int .i64 0] _ HS1.out.1.range Tryd.underlying55 rfl rdSize ?_)
      refine (rfail_c (i := i) 8 w1 HS1.out.1.2.2.1 hl (by omega)).mono ?_
      rintro e w8 ⟨rfl, hb⟩
      have HS8 := Lib.hid (HS1.out.grow hb)
      clear hb
      obtain ⟨g1, g2, g3, g4⟩ := HS8.out.stored zeroE (rdV A c ts.length en i nd 8 (atT ts en i))
      have G3 := Lib.hid g3
      go_wp2_with (first
        | (refine wpList_store_row rfl 26 (.tmp 4) (.tmp 35) rfl (w.heap.size + 1) zeroE rfl rfl 26 _ HS8.out.2 exprSize rfl (by simp [zeroE, Value.oneCell']) ?_)
        | (refine wpList_store_row rfl RdT (.tmp 5) (.tmp 37) rfl (w.heap.size + 2) (rdV A c ts.length en i nd 8 (atT ts en i)) rfl rfl RdT _ G3.out rdSize rfl (by simp [Value.oneCell']) ?_))
      refine bodyPost_ret (results_row_row (P := Tryd.prog) Tryd.results30 _ _ (w.heap.size + 1) (w.heap.size + 2) 26 RdT zeroE (rdV A c ts.length en i nd 8 (atT ts en i)) (0, 0) (0, 0) _ _ rfl rfl g1 g2 Tryd.underlying26 rfl exprSize Tryd.underlying55 rfl rdSize) rfl ?_
      exact ⟨0, ⟨#[]⟩, 0, none, 0, 0, none, 0, 0, i, nd, rfl, g4⟩
    · have hn4 : nd = 1024 := by omega
      subst hn4
      have q3 : w1.cell? ⟨w.heap.size, 3, none⟩ = some (.int .i64 1024) := HS1.out.1.cell 3
      go_wp2_with (refine wpList_load_mid rfl RdT (.tmp 2) rfl w.heap.size 0 rfl [.slice A ts.length c, .int .i64 en, .int .i64 i, .int .i64 (1024 : Nat), .int .i64 0, .int .i64 0] _ HS1.out.1.range Tryd.underlying55 rfl rdSize ?_)
      refine (rfail_c (i := i) 8 w1 HS1.out.1.2.2.1 hl (by omega)).mono ?_
      rintro e w8 ⟨rfl, hb⟩
      have HS8 := Lib.hid (HS1.out.grow hb)
      clear hb
      obtain ⟨g1, g2, g3, g4⟩ := HS8.out.stored zeroE (rdV A c ts.length en i (1024 : Nat) 8 (atT ts en i))
      have G3 := Lib.hid g3
      go_wp2_with (first
        | (refine wpList_store_row rfl 26 (.tmp 4) (.tmp 35) rfl (w.heap.size + 1) zeroE rfl rfl 26 _ HS8.out.2 exprSize rfl (by simp [zeroE, Value.oneCell']) ?_)
        | (refine wpList_store_row rfl RdT (.tmp 5) (.tmp 37) rfl (w.heap.size + 2) (rdV A c ts.length en i (1024 : Nat) 8 (atT ts en i)) rfl rfl RdT _ G3.out rdSize rfl (by simp [Value.oneCell']) ?_))
      refine bodyPost_ret (results_row_row (P := Tryd.prog) Tryd.results30 _ _ (w.heap.size + 1) (w.heap.size + 2) 26 RdT zeroE (rdV A c ts.length en i (1024 : Nat) 8 (atT ts en i)) (0, 0) (0, 0) _ _ rfl rfl g1 g2 Tryd.underlying26 rfl exprSize Tryd.underlying55 rfl rdSize) rfl ?_
      exact ⟨0, ⟨#[]⟩, 0, none, 0, 0, none, 0, 0, i, 1024, rfl, g4⟩
  · rw [hk]
    clear hk3
    by_cases hdd : 32 < d
    · go_wp2_with (refine wpList_load_mid rfl RdT (.tmp 2) rfl w.heap.size 0 rfl [.slice A ts.length c, .int .i64 en, .int .i64 i, .int .i64 nd, .int .i64 0, .int .i64 0] _ HS1.out.1.range Tryd.underlying55 rfl rdSize ?_)
      refine (rfail_c (i := i) 8 w1 HS1.out.1.2.2.1 hl (by omega)).mono ?_
      rintro e w8 ⟨rfl, hb⟩
      have HS8 := Lib.hid (HS1.out.grow hb)
      clear hb
      obtain ⟨g1, g2, g3, g4⟩ := HS8.out.stored zeroE (rdV A c ts.length en i nd 8 (atT ts en i))
      have G3 := Lib.hid g3
      go_wp2_with (first
        | (refine wpList_store_row rfl 26 (.tmp 4) (.tmp 35) rfl (w.heap.size + 1) zeroE rfl rfl 26 _ HS8.out.2 exprSize rfl (by simp [zeroE, Value.oneCell']) ?_)
        | (refine wpList_store_row rfl RdT (.tmp 5) (.tmp 37) rfl (w.heap.size + 2) (rdV A c ts.length en i nd 8 (atT ts en i)) rfl rfl RdT _ G3.out rdSize rfl (by simp [Value.oneCell']) ?_))
      refine bodyPost_ret (results_row_row (P := Tryd.prog) Tryd.results30 _ _ (w.heap.size + 1) (w.heap.size + 2) 26 RdT zeroE (rdV A c ts.length en i nd 8 (atT ts en i)) (0, 0) (0, 0) _ _ rfl rfl g1 g2 Tryd.underlying26 rfl exprSize Tryd.underlying55 rfl rdSize) rfl ?_
      exact ⟨0, ⟨#[]⟩, 0, none, 0, 0, none, 0, 0, i, nd, rfl, g4⟩
    · have hn4 : nd = 1024 := by omega
      subst hn4
      have q3 : w1.cell? ⟨w.heap.size, 3, none⟩ = some (.int .i64 1024) := HS1.out.1.cell 3
      go_wp2_with (refine wpList_load_mid rfl RdT (.tmp 2) rfl w.heap.size 0 rfl [.slice A ts.length c, .int .i64 en, .int .i64 i, .int .i64 (1024 : Nat), .int .i64 0, .int .i64 0] _ HS1.out.1.range Tryd.underlying55 rfl rdSize ?_)
      refine (rfail_c (i := i) 8 w1 HS1.out.1.2.2.1 hl (by omega)).mono ?_
      rintro e w8 ⟨rfl, hb⟩
      have HS8 := Lib.hid (HS1.out.grow hb)
      clear hb
      obtain ⟨g1, g2, g3, g4⟩ := HS8.out.stored zeroE (rdV A c ts.length en i (1024 : Nat) 8 (atT ts en i))
      have G3 := Lib.hid g3
      go_wp2_with (first
        | (refine wpList_store_row rfl 26 (.tmp 4) (.tmp 35) rfl (w.heap.size + 1) zeroE rfl rfl 26 _ HS8.out.2 exprSize rfl (by simp [zeroE, Value.oneCell']) ?_)
        | (refine wpList_store_row rfl RdT (.tmp 5) (.tmp 37) rfl (w.heap.size + 2) (rdV A c ts.length en i (1024 : Nat) 8 (atT ts en i)) rfl rfl RdT _ G3.out rdSize rfl (by simp [Value.oneCell']) ?_))
      refine bodyPost_ret (results_row_row (P := Tryd.prog) Tryd.results30 _ _ (w.heap.size + 1) (w.heap.size + 2) 26 RdT zeroE (rdV A c ts.length en i (1024 : Nat) 8 (atT ts en i)) (0, 0) (0, 0) _ _ rfl rfl g1 g2 Tryd.underlying26 rfl exprSize Tryd.underlying55 rfl rdSize) rfl ?_
      exact ⟨0, ⟨#[]⟩, 0, none, 0, 0, none, 0, 0, i, 1024, rfl, g4⟩
  · have HK3 := Lib.hid (hk3 hk)
    rw [hk]
    clear hk3
    obtain ⟨c0, c1, c2, c3, c4, c5⟩ := cells6 HS1.out.1.1
    go_wp2_with fail
    refine (ris_c (i := i) 91 w1 HS1.out.1.2.2.1 hl (by omega)).mono ?_
    rintro e w2 ⟨rfl, hb⟩
    rw [HK3.out]
    have HS2 := Lib.hid (HS1.out.grow hb)
    clear hb HS1 c0 c1 c2 c3 c4 c5
    clear w1
    by_cases hdd : 32 < d
    · go_wp2_with (refine wpList_load_mid rfl RdT (.tmp 2) rfl w.heap.size 0 rfl [.slice A ts.length c, .int .i64 en, .int .i64 i, .int .i64 nd, .int .i64 0, .int .i64 0] _ HS2.out.1.range Tryd.underlying55 rfl rdSize ?_)
      refine (rfail_c (i := i) 8 w2 HS2.out.1.2.2.1 hl (by omega)).mono ?_
      rintro e w8 ⟨rfl, hb⟩
      have HS8 := Lib.hid (HS2.out.grow hb)
      clear hb
      obtain ⟨g1, g2, g3, g4⟩ := HS8.out.stored zeroE (rdV A c ts.length en i nd 8 (atT ts en i))
      have G3 := Lib.hid g3
      go_wp2_with (first
        | (refine wpList_store_row rfl 26 (.tmp 4) (.tmp 35) rfl (w.heap.size + 1) zeroE rfl rfl 26 _ HS8.out.2 exprSize rfl (by simp [zeroE, Value.oneCell']) ?_)
        | (refine wpList_store_row rfl RdT (.tmp 5) (.tmp 37) rfl (w.heap.size + 2) (rdV A c ts.length en i nd 8 (atT ts en i)) rfl rfl RdT _ G3.out rdSize rfl (by simp [Value.oneCell']) ?_))
      refine bodyPost_ret (results_row_row (P := Tryd.prog) Tryd.results30 _ _ (w.heap.size + 1) (w.heap.size + 2) 26 RdT zeroE (rdV A c ts.length en i nd 8 (atT ts en i)) (0, 0) (0, 0) _ _ rfl rfl g1 g2 Tryd.underlying26 rfl exprSize Tryd.underlying55 rfl rdSize) rfl ?_
      exact ⟨0, ⟨#[]⟩, 0, none, 0, 0, none, 0, 0, i, nd, rfl, g4⟩
    · have hn4 : nd = 1024 := by omega
      subst hn4
      have q3 : w2.cell? ⟨w.heap.size, 3, none⟩ = some (.int .i64 1024) := HS2.out.1.cell 3
      go_wp2_with (refine wpList_load_mid rfl RdT (.tmp 2) rfl w.heap.size 0 rfl [.slice A ts.length c, .int .i64 en, .int .i64 i, .int .i64 (1024 : Nat), .int .i64 0, .int .i64 0] _ HS2.out.1.range Tryd.underlying55 rfl rdSize ?_)
      refine (rfail_c (i := i) 8 w2 HS2.out.1.2.2.1 hl (by omega)).mono ?_
      rintro e w8 ⟨rfl, hb⟩
      have HS8 := Lib.hid (HS2.out.grow hb)
      clear hb
      obtain ⟨g1, g2, g3, g4⟩ := HS8.out.stored zeroE (rdV A c ts.length en i (1024 : Nat) 8 (atT ts en i))
      have G3 := Lib.hid g3
      go_wp2_with (first
        | (refine wpList_store_row rfl 26 (.tmp 4) (.tmp 35) rfl (w.heap.size + 1) zeroE rfl rfl 26 _ HS8.out.2 exprSize rfl (by simp [zeroE, Value.oneCell']) ?_)
        | (refine wpList_store_row rfl RdT (.tmp 5) (.tmp 37) rfl (w.heap.size + 2) (rdV A c ts.length en i (1024 : Nat) 8 (atT ts en i)) rfl rfl RdT _ G3.out rdSize rfl (by simp [Value.oneCell']) ?_))
      refine bodyPost_ret (results_row_row (P := Tryd.prog) Tryd.results30 _ _ (w.heap.size + 1) (w.heap.size + 2) 26 RdT zeroE (rdV A c ts.length en i (1024 : Nat) 8 (atT ts en i)) (0, 0) (0, 0) _ _ rfl rfl g1 g2 Tryd.underlying26 rfl exprSize Tryd.underlying55 rfl rdSize) rfl ?_
      exact ⟨0, ⟨#[]⟩, 0, none, 0, 0, none, 0, 0, i, 1024, rfl, g4⟩
set_option maxHeartbeats 8000000 in
set_option maxRecDepth 100000 in
theorem rexpr_num {A : Option Addr} {c : Nat} {ts : List Tok} {en i nd : Nat} (d : Nat) (w : World) (h : TA w A ts) (hl : ts.length ≤ 65536) (_hi : i ≤ ts.length) (hd : d ≤ 33) (hnd : nd ≤ 1024) (hk : kindT ts i = 2) (hbig : ¬ (32 < d ∨ nd = 1024)) :
    Calls Tryd.prog 30 #[.agg (rdV A c ts.length en i nd 0 0), .int .i64 d] w (rexprPost w A c ts en (.ok (.mk 1 [] (nT ts i) [] [], i + 1, nd + 1))) := by
  have hil : i < ts.length := kindT_lt (by omega)
  have hd2 : ¬ 32 < d := by omega
  have hn2 : (((nd : Nat) : Int) == 1024) = false := by simp; omega
  have HT := Lib.hid h
  have HS0 := Lib.hid (EX.start (c := c) (en := en) (i := i) (nd := nd) h)
  clear h
  go_enter Tryd.func30, Tryd.ntmps30
  go_upto_region 1 with fail
  change Code.wp _ _ _ _ (((w.alloc (.cells (rdV A c ts.length en i nd 0 0) RdT)).alloc (.cells zeroE 26)).alloc (.cells zeroR RdT))
  generalize ((w.alloc (.cells (rdV A c ts.length en i nd 0 0) RdT)).alloc (.cells zeroE 26)).alloc (.cells zeroR RdT) = W at *
  go_wp2_with (refine wpList_load_mid rfl RdT (.tmp 2) rfl w.heap.size 0 rfl [.slice A ts.length c, .int .i64 en, .int .i64 i, .int .i64 nd, .int .i64 0, .int .i64 0] _ HS0.out.1.range Tryd.underlying55 rfl rdSize ?_)
  refine (rkind_c (i := i) W HS0.out.1.2.2.1 hl (by omega)).mono ?_
  rintro e w1 ⟨rfl, hb⟩
  have HS1 := Lib.hid (HS0.out.grow hb)
  clear hb HS0
  clear W
  rw [hk]
  have q3 : w1.cell? ⟨w.heap.size, 3, none⟩ = some (.int .i64 nd) := HS1.out.1.cell 3
  have f3 : w1.frozen? ⟨w.heap.size, 3, none⟩ = false := HS1.out.1.frozen 3
  have HN := Lib.hid (HS1.out.node HT.out)
  clear HS1
  go_upto_region 7 with fail
  go_simp
  clear q3 f3
  generalize w1.setCell ⟨w.heap.size, 3, none⟩ (.int .i64 ((nd : Int) + 1)) = w3 at *
  clear w1
  obtain ⟨gt, rfl, hgt, t0, t1, t2, t3⟩ := HN.out.1.2.2.1.at_ hil
  have HTX : Hid (textT ts i = ts[i].text) := by show _ = _; unfold textT; rw [List.getElem?_eq_getElem hil]
  have HTN : Hid (nT ts i = (ts[i].n : Int)) := by show _ = _; unfold nT; rw [List.getElem?_eq_getElem hil]
  have hrt : w3.rangeAt gt (i * 4) [.int .i64 ts[i].kind, .string ⟨ts[i].text.toArray⟩, .int .i64 ts[i].n, .int .i64 ts[i].pos] := fun j v hv => by
    match j, hv with
    | 0, hv => simp at hv; subst hv; exact t0
    | 1, hv => simp at hv; subst hv; exact t1
    | 2, hv => simp at hv; subst hv; exact t2
    | 3, hv => simp at hv; subst hv; exact t3
  have HRT := Lib.hid hrt
  clear t0 t1 t2 t3 hrt
  generalize ts[i].kind = tk at *
  generalize ts[i].text = tx at *
  generalize ts[i].n = tn at *
  generalize ts[i].pos = tp at *
  have i0 : (0 : Int) ≤ (i : Int) := by omega
  have i1 : (i : Int) < (ts.length : Int) := by omega
  have q0 : w3.cell? ⟨w.heap.size, 0, none⟩ = some (.slice (some ⟨gt, 0, none⟩) ts.length c) := HN.out.1.cell 0
  have q2 : w3.cell? ⟨w.heap.size, 2, none⟩ = some (.int .i64 i) := HN.out.1.cell 2
  have hba : Below w3.heap.size w3 (w3.alloc (.cells #[.int .i64 tk, .string ⟨tx.toArray⟩, .int .i64 tn, .int .i64 tp] 40)) := (Below.refl _ _).alloc (Nat.le_refl _) _
  have HM := Lib.hid (HN.out.grow hba)
  have HTK : Hid ((w3.alloc (.cells #[.int .i64 tk, .string ⟨tx.toArray⟩, .int .i64 tn, .int .i64 tp] 40)).heap[w3.heap.size]? = some (.cells #[.int .i64 tk, .string ⟨tx.toArray⟩, .int .i64 tn, .int .i64 tp] 40 (0, 0))) := heap_alloc_new _ _
  have hw3 : w.heap.size + 2 < w3.heap.size := (Array.getElem?_eq_some_iff.1 HN.out.1.2.1).1
  clear hba HN
  go_upto_region 8 with (first
    | (refine wpList_load_mid rfl 40 (.tmp 46) rfl gt (i * 4) rfl [.int .i64 tk, .string ⟨tx.toArray⟩, .int .i64 tn, .int .i64 tp] _ HRT.out Tryd.underlying40 rfl tokSize ?_)
    | (refine wpList_store_new rfl 40 (.tmp 7) (.tmp 47) rfl w3 _ #[.int .i64 tk, .string ⟨tx.toArray⟩, .int .i64 tn, .int .i64 tp] rfl rfl tokSize rfl (by simp [Value.oneCell']) ?_))
  go_simp
  clear q0 q2 HRT
  generalize w3.alloc (.cells #[.int .i64 tk, .string ⟨tx.toArray⟩, .int .i64 tn, .int .i64 tp] 40) = w4 at *
  generalize w3.heap.size = tb at *
  clear w3
  have q2 : w4.cell? ⟨w.heap.size, 2, none⟩ = some (.int .i64 i) := HM.out.1.cell 2
  have f2 : w4.frozen? ⟨w.heap.size, 2, none⟩ = false := HM.out.1.frozen 2
  have HS5 := Lib.hid (HM.out.next HT.out)
  have HT5 := Lib.hid ((Below.heap_setCell w4 ⟨w.heap.size, 2, none⟩ (.int .i64 ((i : Int) + 1)) tb (by show tb ≠ w.heap.size; omega)).trans HTK.out)
  clear HM HTK
  go_upto_region 9 with fail
  go_simp
  clear q2 f2
  generalize w4.setCell ⟨w.heap.size, 2, none⟩ (.int .i64 ((i : Int) + 1)) = w5 at *
  clear w4
  have HRD : Hid (w5.rangeAt w.heap.size 0 [.slice (some ⟨gt, 0, none⟩) ts.length c, .int .i64 en, .int .i64 (i + 1 : Nat), .int .i64 (nd + 1 : Nat), .int .i64 0, .int .i64 0]) := HS5.out.1.range
  have HRB : Hid (w.heap.size < w5.heap.size) := (Array.getElem?_eq_some_iff.1 HS5.out.1.1).1
  have HRN : Hid (w.heap.size ≠ w.heap.size + 1) := by show _ ≠ _; omega
  have HNE : Hid (tb ≠ w.heap.size + 1) := by show _ ≠ _; omega
  go_upto_region 10 with fail
  go_simp
  have hw5 : w.heap.size + 2 < w5.heap.size := (Array.getElem?_eq_some_iff.1 HS5.out.1.2.1).1
  refine wp_region_two_tail 5 4 (by omega) (SBel w5) (SZ w5 (w.heap.size + 1) #[.int .i64 1, .string ⟨#[]⟩, .int .i64 tn, .slice none 0 0, .slice none 0 0]) (by kernel_rfl) (by kernel_rfl) ((Below.refl _ _).drew) ?_
  simp only [List.take_succ_cons, List.take_zero, List.drop_succ_cons, List.drop_zero]
  repeat (first
    | (refine two_store_row rfl 26 (.tmp 4) (.tmp 56) rfl w5 (w.heap.size + 1) #[.int .i64 1, .string ⟨#[]⟩, .int .i64 tn, .slice none 0 0, .slice none 0 0] rfl rfl 26 _ HS5.out.2 exprSize rfl (by simp [Value.oneCell']) ?_
       go_simp)
    | (refine two_load_mid (by omega) rfl RdT (.tmp 2) rfl w.heap.size 0 rfl [.slice (some ⟨gt, 0, none⟩) ts.length c, .int .i64 en, .int .i64 (i + 1 : Nat), .int .i64 (nd + 1 : Nat), .int .i64 0, .int .i64 0] _ (fun w' hS => sz_range hS HRD.out HRB.out HRN.out) Tryd.underlying55 rfl rdSize ?_
       go_simp)
    | (apply two_val (by omega) rfl
       · intro W' hS
         have e1 := sz_cell hS (cell_of_row _ _ 2 _ _ _ HT5.out) HNE.out
         go_simp
         try rfl
       go_simp))
  refine wpKeepT_nil ?_
  rintro w7 ⟨w6, hS6, rfl⟩
  have HS6 := Lib.hid (HS5.out.grow hS6)
  have H56 := Lib.hid hS6
  clear hS6
  obtain ⟨g1, g2, g3, g4⟩ := HS6.out.stored #[.int .i64 1, .string ⟨#[]⟩, .int .i64 tn, .slice none 0 0, .slice none 0 0] (rdV (some ⟨gt, 0, none⟩) c ts.length en (i + 1 : Nat) (nd + 1 : Nat) 0 0)
  have G3 := Lib.hid g3
  go_wp2_with (refine wpList_store_row rfl RdT (.tmp 5) (.tmp 57) rfl (w.heap.size + 2) (rdV (some ⟨gt, 0, none⟩) c ts.length en (i + 1 : Nat) (nd + 1 : Nat) 0 0) rfl rfl RdT _ G3.out rdSize rfl (by simp [Value.oneCell']) ?_)
  refine bodyPost_ret (results_row_row (P := Tryd.prog) Tryd.results30 _ _ (w.heap.size + 1) (w.heap.size + 2) 26 RdT #[.int .i64 1, .string ⟨#[]⟩, .int .i64 tn, .slice none 0 0, .slice none 0 0] (rdV (some ⟨gt, 0, none⟩) c ts.length en (i + 1 : Nat) (nd + 1 : Nat) 0 0) (0, 0) (0, 0) _ _ rfl rfl g1 g2 Tryd.underlying26 rfl exprSize Tryd.underlying55 rfl rdSize) rfl ?_
  refine ⟨[.int .i64 1, .string ⟨#[]⟩, .int .i64 tn, .slice none 0 0, .slice none 0 0], rfl, ?_, g4⟩
  unfold ExprC
  exact ⟨none, 0, none, 0, by rw [HTN.out]; rfl, fun h => absurd h (by simp), fun h => absurd h (by simp)⟩
set_option maxHeartbeats 8000000 in
set_option maxRecDepth 100000 in
theorem rexpr_name {A : Option Addr} {c : Nat} {ts : List Tok} {en i nd : Nat} (d : Nat) (w : World) (h : TA w A ts) (hl : ts.length ≤ 65536) (_hi : i ≤ ts.length) (hd : d ≤ 33) (hnd : nd ≤ 1024) (hk : kindT ts i = 1) (hbig : ¬ (32 < d ∨ nd = 1024)) (h40 : isT ts (i + 1) 40 = false) :
    Calls Tryd.prog 30 #[.agg (rdV A c ts.length en i nd 0 0), .int .i64 d] w (rexprPost w A c ts en (.ok (.mk 4 (textT ts i) 0 [] [], i + 1, nd + 1))) := by
  have hil : i < ts.length := kindT_lt (by omega)
  have hd2 : ¬ 32 < d := by omega
  have hn2 : (((nd : Nat) : Int) == 1024) = false := by simp; omega
  have H40 := Lib.hid h40
  clear h40
  have HT := Lib.hid h
  have HS0 := Lib.hid (EX.start (c := c) (en := en) (i := i) (nd := nd) h)
  clear h
  go_enter Tryd.func30, Tryd.ntmps30
  go_upto_region 1 with fail
  change Code.wp _ _ _ _ (((w.alloc (.cells (rdV A c ts.length en i nd 0 0) RdT)).alloc (.cells zeroE 26)).alloc (.cells zeroR RdT))
  generalize ((w.alloc (.cells (rdV A c ts.length en i nd 0 0) RdT)).alloc (.cells zeroE 26)).alloc (.cells zeroR RdT) = W at *
  go_wp2_with (refine wpList_load_mid rfl RdT (.tmp 2) rfl w.heap.size 0 rfl [.slice A ts.length c, .int .i64 en, .int .i64 i, .int .i64 nd, .int .i64 0, .int .i64 0] _ HS0.out.1.range Tryd.underlying55 rfl rdSize ?_)
  refine (rkind_c (i := i) W HS0.out.1.2.2.1 hl (by omega)).mono ?_
  rintro e w1 ⟨rfl, hb⟩
  have HS1 := Lib.hid (HS0.out.grow hb)
  clear hb HS0
  clear W
  rw [hk]
  have q3 : w1.cell? ⟨w.heap.size, 3, none⟩ = some (.int .i64 nd) := HS1.out.1.cell 3
  have f3 : w1.frozen? ⟨w.heap.size, 3, none⟩ = false := HS1.out.1.frozen 3
  have HN := Lib.hid (HS1.out.node HT.out)
  clear HS1
  go_upto_region 7 with fail
  go_simp
  clear q3 f3
  generalize w1.setCell ⟨w.heap.size, 3, none⟩ (.int .i64 ((nd : Int) + 1)) = w3 at *
  clear w1
  obtain ⟨gt, rfl, hgt, t0, t1, t2, t3⟩ := HN.out.1.2.2.1.at_ hil
  have HTX : Hid (textT ts i = ts[i].text) := by show _ = _; unfold textT; rw [List.getElem?_eq_getElem hil]
  have HTN : Hid (nT ts i = (ts[i].n : Int)) := by show _ = _; unfold nT; rw [List.getElem?_eq_getElem hil]
  have hrt : w3.rangeAt gt (i * 4) [.int .i64 ts[i].kind, .string ⟨ts[i].text.toArray⟩, .int .i64 ts[i].n, .int .i64 ts[i].pos] := fun j v hv => by
    match j, hv with
    | 0, hv => simp at hv; subst hv; exact t0
    | 1, hv => simp at hv; subst hv; exact t1
    | 2, hv => simp at hv; subst hv; exact t2
    | 3, hv => simp at hv; subst hv; exact t3
  have HRT := Lib.hid hrt
  clear t0 t1 t2 t3 hrt
  generalize ts[i].kind = tk at *
  generalize ts[i].text = tx at *
  generalize ts[i].n = tn at *
  generalize ts[i].pos = tp at *
  have i0 : (0 : Int) ≤ (i : Int) := by omega
  have i1 : (i : Int) < (ts.length : Int) := by omega
  have q0 : w3.cell? ⟨w.heap.size, 0, none⟩ = some (.slice (some ⟨gt, 0, none⟩) ts.length c) := HN.out.1.cell 0
  have q2 : w3.cell? ⟨w.heap.size, 2, none⟩ = some (.int .i64 i) := HN.out.1.cell 2
  have hba : Below w3.heap.size w3 (w3.alloc (.cells #[.int .i64 tk, .string ⟨tx.toArray⟩, .int .i64 tn, .int .i64 tp] 40)) := (Below.refl _ _).alloc (Nat.le_refl _) _
  have HM := Lib.hid (HN.out.grow hba)
  have HTK : Hid ((w3.alloc (.cells #[.int .i64 tk, .string ⟨tx.toArray⟩, .int .i64 tn, .int .i64 tp] 40)).heap[w3.heap.size]? = some (.cells #[.int .i64 tk, .string ⟨tx.toArray⟩, .int .i64 tn, .int .i64 tp] 40 (0, 0))) := heap_alloc_new _ _
  have hw3 : w.heap.size + 2 < w3.heap.size := (Array.getElem?_eq_some_iff.1 HN.out.1.2.1).1
  clear hba HN
  go_upto_region 8 with (first
    | (refine wpList_load_mid rfl 40 (.tmp 46) rfl gt (i * 4) rfl [.int .i64 tk, .string ⟨tx.toArray⟩, .int .i64 tn, .int .i64 tp] _ HRT.out Tryd.underlying40 rfl tokSize ?_)
    | (refine wpList_store_new rfl 40 (.tmp 7) (.tmp 47) rfl w3 _ #[.int .i64 tk, .string ⟨tx.toArray⟩, .int .i64 tn, .int .i64 tp] rfl rfl tokSize rfl (by simp [Value.oneCell']) ?_))
  go_simp
  clear q0 q2 HRT
  generalize w3.alloc (.cells #[.int .i64 tk, .string ⟨tx.toArray⟩, .int .i64 tn, .int .i64 tp] 40) = w4 at *
  generalize w3.heap.size = tb at *
  clear w3
  have q2 : w4.cell? ⟨w.heap.size, 2, none⟩ = some (.int .i64 i) := HM.out.1.cell 2
  have f2 : w4.frozen? ⟨w.heap.size, 2, none⟩ = false := HM.out.1.frozen 2
  have HS5 := Lib.hid (HM.out.next HT.out)
  have HT5 := Lib.hid ((Below.heap_setCell w4 ⟨w.heap.size, 2, none⟩ (.int .i64 ((i : Int) + 1)) tb (by show tb ≠ w.heap.size; omega)).trans HTK.out)
  clear HM HTK
  go_upto_region 9 with fail
  go_simp
  clear q2 f2
  generalize w4.setCell ⟨w.heap.size, 2, none⟩ (.int .i64 ((i : Int) + 1)) = w5 at *
  clear w4
  go_wp2_with (refine wpList_load_mid rfl RdT (.tmp 2) rfl w.heap.size 0 rfl [.slice (some ⟨gt, 0, none⟩) ts.length c, .int .i64 en, .int .i64 (i + 1 : Nat), .int .i64 (nd + 1 : Nat), .int .i64 0, .int .i64 0] _ HS5.out.1.range Tryd.underlying55 rfl rdSize ?_)
  refine (ris_c (i := i + 1) 40 w5 HS5.out.1.2.2.1 hl (by omega)).mono ?_
  rintro e w9 ⟨rfl, hb⟩
  rw [H40.out]
  have HS9 := Lib.hid (HS5.out.grow hb)
  have HT9 := Lib.hid ((hb.block _ (Array.getElem?_eq_some_iff.1 HT5.out).1).trans HT5.out)
  clear hb HS5 HT5
  clear w5
  have HRD : Hid (w9.rangeAt w.heap.size 0 [.slice (some ⟨gt, 0, none⟩) ts.length c, .int .i64 en, .int .i64 (i + 1 : Nat), .int .i64 (nd + 1 : Nat), .int .i64 0, .int .i64 0]) := HS9.out.1.range
  have HRB : Hid (w.heap.size < w9.heap.size) := (Array.getElem?_eq_some_iff.1 HS9.out.1.1).1
  have HRN : Hid (w.heap.size ≠ w.heap.size + 1) := by show _ ≠ _; omega
  have HNE : Hid (tb ≠ w.heap.size + 1) := by show _ ≠ _; omega
  go_upto_region 15 with fail
  go_simp
  have hw9 : w.heap.size + 2 < w9.heap.size := (Array.getElem?_eq_some_iff.1 HS9.out.1.2.1).1
  refine wp_region_two_tail 5 4 (by omega) (SBel w9) (SZ w9 (w.heap.size + 1) #[.int .i64 4, .string ⟨tx.toArray⟩, .int .i64 0, .slice none 0 0, .slice none 0 0]) (by kernel_rfl) (by kernel_rfl) ((Below.refl _ _).drew) ?_
  simp only [List.take_succ_cons, List.take_zero, List.drop_succ_cons, List.drop_zero]
  repeat (first
    | (refine two_store_row rfl 26 (.tmp 4) (.tmp 73) rfl w9 (w.heap.size + 1) #[.int .i64 4, .string ⟨tx.toArray⟩, .int .i64 0, .slice none 0 0, .slice none 0 0] rfl rfl 26 _ HS9.out.2 exprSize rfl (by simp [Value.oneCell']) ?_
       go_simp)
    | (refine two_load_mid (by omega) rfl RdT (.tmp 2) rfl w.heap.size 0 rfl [.slice (some ⟨gt, 0, none⟩) ts.length c, .int .i64 en, .int .i64 (i + 1 : Nat), .int .i64 (nd + 1 : Nat), .int .i64 0, .int .i64 0] _ (fun w' hS => sz_range hS HRD.out HRB.out HRN.out) Tryd.underlying55 rfl rdSize ?_
       go_simp)
    | (apply two_val (by omega) rfl
       · intro W' hS
         have e1 := sz_cell hS (cell_of_row _ _ 1 _ _ _ HT9.out) HNE.out
         go_simp
         try rfl
       go_simp))
  refine wpKeepT_nil ?_
  rintro w7 ⟨w6, hS6, rfl⟩
  have HS6 := Lib.hid (HS9.out.grow hS6)
  have H56 := Lib.hid hS6
  clear hS6
  obtain ⟨g1, g2, g3, g4⟩ := HS6.out.stored #[.int .i64 4, .string ⟨tx.toArray⟩, .int .i64 0, .slice none 0 0, .slice none 0 0] (rdV (some ⟨gt, 0, none⟩) c ts.length en (i + 1 : Nat) (nd + 1 : Nat) 0 0)
  have G3 := Lib.hid g3
  go_wp2_with (refine wpList_store_row rfl RdT (.tmp 5) (.tmp 74) rfl (w.heap.size + 2) (rdV (some ⟨gt, 0, none⟩) c ts.length en (i + 1 : Nat) (nd + 1 : Nat) 0 0) rfl rfl RdT _ G3.out rdSize rfl (by simp [Value.oneCell']) ?_)
  refine bodyPost_ret (results_row_row (P := Tryd.prog) Tryd.results30 _ _ (w.heap.size + 1) (w.heap.size + 2) 26 RdT #[.int .i64 4, .string ⟨tx.toArray⟩, .int .i64 0, .slice none 0 0, .slice none 0 0] (rdV (some ⟨gt, 0, none⟩) c ts.length en (i + 1 : Nat) (nd + 1 : Nat) 0 0) (0, 0) (0, 0) _ _ rfl rfl g1 g2 Tryd.underlying26 rfl exprSize Tryd.underlying55 rfl rdSize) rfl ?_
  refine ⟨[.int .i64 4, .string ⟨tx.toArray⟩, .int .i64 0, .slice none 0 0, .slice none 0 0], rfl, ?_, g4⟩
  unfold ExprC
  exact ⟨none, 0, none, 0, by rw [HTX.out]; rfl, fun h => absurd h (by simp), fun h => absurd h (by simp)⟩
#print axioms rexpr_name
end Go.Proofs.YtbjagceopgofiaaDoor
