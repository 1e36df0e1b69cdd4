/-
  The reference's reader: list.
-/
import Derived.Test.YtbjagceopgofiaaDoorReadA
import Derived.Test.YtbjagceopgofiaaDoorParsF
namespace Go.Proofs.YtbjagceopgofiaaDoor
open Go.RowKit

abbrev RdT : TypeId := 55
def zeroR : Array Value := #[.slice none 0 0, .int .i64 0, .int .i64 0, .int .i64 0, .int .i64 0, .int .i64 0]
/-- In the midst of a method of the reader: its copy of the reader (block bx), the result's block (rs), the tokens. -/
def RSt (w : World) (bx rs : Nat) (A : Option Addr) (c : Nat) (ts : List Tok) (en i nd : Nat) (wx : World) : Prop :=
  wx.heap[bx]? = some (.cells (rdV A c ts.length en i nd 0 0) RdT (0, 0)) ∧ wx.heap[rs]? = some (.cells zeroR RdT (0, 0)) ∧ TA wx A ts ∧ Below w.heap.size w wx
section
variable {w wx w' : World} {bx rs : Nat} {A : Option Addr} {c : Nat} {ts : List Tok} {en i nd : Nat}
theorem RSt.grow (h : RSt w bx rs A c ts en i nd wx) (hb : Below wx.heap.size wx w') : RSt w bx rs A c ts en i nd w' := by
  obtain ⟨h1, h2, h3, h4⟩ := h
  exact ⟨(hb.block _ (Array.getElem?_eq_some_iff.1 h1).1).trans h1, (hb.block _ (Array.getElem?_eq_some_iff.1 h2).1).trans h2, h3.grow hb, h4.trans (hb.mono h4.size)⟩
theorem RSt.cell (h : RSt w bx rs A c ts en i nd wx) (j : Nat) : wx.cell? ⟨bx, j, none⟩ = (rdV A c ts.length en i nd 0 0)[j]? := cell_of_row _ _ _ _ _ _ h.1
theorem RSt.frozen (h : RSt w bx rs A c ts en i nd wx) (j : Nat) : wx.frozen? ⟨bx, j, none⟩ = false := frozen_of_row _ _ _ _ _ h.1
theorem RSt.range (h : RSt w bx rs A c ts en i nd wx) : wx.rangeAt bx 0 [.slice A ts.length c, .int .i64 en, .int .i64 i, .int .i64 nd, .int .i64 0, .int .i64 0] := range_of_row5 (cs := [.slice A ts.length c, .int .i64 en, .int .i64 i, .int .i64 nd, .int .i64 0, .int .i64 0]) h.1
theorem TA.keep {B : Nat} (h : TA w A ts) (hb : Below B w w') (hB : ∀ g, A = some ⟨g, 0, none⟩ → g < w.heap.size → g < B) : TA w' A ts := fun hz => by
  obtain ⟨g, rfl, hg, hr⟩ := h hz
  exact ⟨g, rfl, Nat.lt_of_lt_of_le hg hb.size, fun i t ht => rangeAt_kept (hr i t ht) hb (hB g rfl hg)⟩
/-- A step of the reader: the next token. -/
theorem RSt.next (h : RSt w bx rs A c ts en i nd wx) (hT : TA w A ts) (hbx : w.heap.size ≤ bx) (hne : rs ≠ bx) : RSt w bx rs A c ts en (i + 1) nd (wx.setCell ⟨bx, 2, none⟩ (.int .i64 ((i : Int) + 1))) := by
  obtain ⟨h1, h2, h3, h4⟩ := h
  have hb : Below w.heap.size w (wx.setCell ⟨bx, 2, none⟩ (.int .i64 ((i : Int) + 1))) := h4.setCell (p := ⟨bx, 2, none⟩) hbx _
  refine ⟨?_, (Below.heap_setCell _ _ _ _ (by show rs ≠ bx; exact hne)).trans h2, hT.grow hb, hb⟩
  rw [heap_setCell_same _ _ _ _ _ _ h1]
  simp
theorem RSt.node (h : RSt w bx rs A c ts en i nd wx) (hT : TA w A ts) (hbx : w.heap.size ≤ bx) (hne : rs ≠ bx) : RSt w bx rs A c ts en i (nd + 1) (wx.setCell ⟨bx, 3, none⟩ (.int .i64 ((nd : Int) + 1))) := by
  obtain ⟨h1, h2, h3, h4⟩ := h
  have hb : Below w.heap.size w (wx.setCell ⟨bx, 3, none⟩ (.int .i64 ((nd : Int) + 1))) := h4.setCell (p := ⟨bx, 3, none⟩) hbx _
  refine ⟨?_, (Below.heap_setCell _ _ _ _ (by show rs ≠ bx; exact hne)).trans h2, hT.grow hb, hb⟩
  rw [heap_setCell_same _ _ _ _ _ _ h1]
  simp
end
def rlistPost (w : World) (A : Option Addr) (c : Nat) (ts : List Tok) (en nd : Nat) (r : Except (Nat × Nat) (List Int × Nat)) (x : Ending) (w' : World) : Prop :=
  match r with
  | .ok (l, j) => ∃ la lc, x = .returned (.tuple #[.slice la l.length lc, .agg (rdV A c ts.length en j nd 0 0)]) ∧ IntsF w' (fun b => w.heap.size ≤ b) la l ∧ Below w.heap.size w w'
  | .error (er, p) => ∃ i' : Nat, x = .returned (.tuple #[.slice none 0 0, .agg (rdV A c ts.length en i' nd er p)]) ∧ Below w.heap.size w w'
def RelRdL (w : World) (A : Option Addr) (c : Nat) (ts : List Tok) (en nd : Nat) (r : Except (Nat × Nat) (List Int × Nat)) (v : Value) (f : Nat) (wr : World) : Prop :=
  ∃ (i : Nat) (acc : List Int), listM ts en f i acc = some r ∧ OwnInts wr (w.heap.size + 2) v acc ∧ RSt w w.heap.size (w.heap.size + 1) A c ts en i nd wr ∧ acc.length ≤ 4096 ∧ i ≤ ts.length
theorem rst_start {w : World} {A : Option Addr} {c : Nat} {ts : List Tok} {en i nd : Nat} (h : TA w A ts) : RSt w w.heap.size (w.heap.size + 1) A c ts en i nd ((w.alloc (.cells (rdV A c ts.length en i nd 0 0) RdT)).alloc (.cells zeroR RdT)) :=
  ⟨heap_alloc2_old w _ _, heap_alloc2_new w _ _, h.grow (((Below.refl _ _).alloc (Nat.le_refl _) _).alloc (by simp) _), ((Below.refl _ _).alloc (Nat.le_refl _) _).alloc (by simp) _⟩

/-- Two results: a slot, and a struct in a block of its own. -/
theorem results_slot_row {P : Program} {fn : Func} {s p : Tmp} {ty : TypeId} (h : fn.results = #[.tmp s, .cell p ty]) (tmps : Array Value) (w : World) (g : Nat) (t : TypeId) (cs : Array Value) (fr : Nat × Nat) (d : TypeDesc) (v : Value)
    (hv : tmps.getD s undef = v) (hp : tmps.getD p undef = .pointer (some ⟨g, 0, none⟩)) (hg : w.heap[g]? = some (.cells cs t fr))
    (hu : P.underlying ty = some d) (hd : (match d with | .struct _ | .array _ _ => true | _ => false) = true) (hi : (P.info? ty).map (·.size) = some cs.size) :
    (results fn tmps).run P w = .ok (.tuple #[v, .agg cs]) w := by
  have hp' : tmps[p]?.getD undef = .pointer (some ⟨g, 0, none⟩) := by simpa using hp
  have hv' : tmps[s]?.getD undef = v := by simpa using hv
  simp [results, h, hp', hv', asAddr, run_loadVar_row w g t ty cs fr d hg hu hd hi]
set_option maxHeartbeats 8000000 in
set_option maxRecDepth 100000 in
theorem rlist_c {A : Option Addr} {c : Nat} {ts : List Tok} {en i nd f : Nat} (w : World) (h : TA w A ts) (hl : ts.length ≤ 65536) (hi : i ≤ ts.length) (r : Except (Nat × Nat) (List Int × Nat)) (hr : listTop ts en f i = some r) :
    Calls Tryd.prog 59 #[.agg (rdV A c ts.length en i nd 0 0)] w (rlistPost w A c ts en nd r) := by
  have HT := Lib.hid h
  have HS0 := Lib.hid (rst_start (c := c) (en := en) (i := i) (nd := nd) h)
  clear h
  go_enter Tryd.func59, Tryd.ntmps59
  go_upto_region 2 with fail
  change Code.wp _ _ _ _ ((w.alloc (.cells (rdV A c ts.length en i nd 0 0) RdT)).alloc (.cells zeroR RdT))
  generalize (w.alloc (.cells (rdV A c ts.length en i nd 0 0) RdT)).alloc (.cells zeroR RdT) = W at *
  have hwW : w.heap.size + 1 < W.heap.size := (Array.getElem?_eq_some_iff.1 HS0.out.2.1).1
  cases hb0 : isT ts i 93
  · have HR : Hid (listM ts en f i [] = some r) := by show _ = _; rw [← hr]; unfold listTop; rw [if_neg (by simp [hb0])]
    have HB0 := Lib.hid hb0
    clear hr hb0
    obtain ⟨i0, hii, hz0, hz1, hz2⟩ := info_parts intInfo
    have HI := Lib.hid hii
    have HZ0 := Lib.hid hz0
    have HZ1 := Lib.hid hz1
    have HZ2 := Lib.hid hz2
    clear hii hz0 hz1 hz2
    go_wp2_with (refine wpList_load_mid rfl RdT (.tmp 1) rfl w.heap.size 0 rfl [.slice A ts.length c, .int .i64 en, .int .i64 i, .int .i64 nd, .int .i64 0, .int .i64 0] _ HS0.out.range Tryd.underlying55 rfl rdSize ?_)
    refine (ris_c 93 W HS0.out.2.2.1 hl (by omega)).mono ?_
    rintro e w1 ⟨rfl, hb⟩
    rw [HB0.out]
    have HS1 := Lib.hid (HS0.out.grow hb)
    have hw1 : w.heap.size + 1 < w1.heap.size := Nat.lt_of_lt_of_le hwW hb.size
    clear hb HS0 hwW
    go_wp2_with fail
    go_loopg [4] f (fun g v wr => RelRdL w A c ts en nd r v g wr)
    case atStart => exact ⟨i, [], HR.out, World.ownsRow_nil _ _ _ _, HS1.out, by simp, hi⟩
    case round =>
      obtain ⟨j, acc, hlm, hown, hst, ha, hj⟩ := hrel
      have HL := Lib.hid hlm
      have HO := Lib.hid hown
      have HS := Lib.hid hst
      have ha2 := ha
      clear hlm hown hst HS1 HB0 HR hw1
      obtain ⟨g, rfl⟩ : ∃ g, gk = g + 1 := by
        cases gk with
        | zero => exact absurd HL.out (by simp [listM])
        | succ g => exact ⟨g, rfl⟩
      obtain ⟨VA, Vk, rfl⟩ := HO.out.len
      have hlr := HS.out.2.2.1
      clear ha
      go_wp2_with (refine wpList_load_mid rfl RdT (.tmp 1) rfl w.heap.size 0 rfl [.slice _ ts.length c, .int .i64 en, .int .i64 j, .int .i64 nd, .int .i64 0, .int .i64 0] _ HS.out.range Tryd.underlying55 rfl rdSize ?_)
      refine (rkind_c wr hlr hl (by omega)).mono ?_
      rintro e w2 ⟨rfl, hb⟩
      have HS2 := Lib.hid (HS.out.grow hb)
      have HO2 := Lib.hid (own_grow HO.out hb)
      clear hb HS HO hlr
      clear wr
      by_cases hk : kindT ts j = 2
      · have hkk : (((kindT ts j : Nat) : Int) != 2) = false := by simp; omega
        have hjl : j < ts.length := kindT_lt (by omega)
        have HK := Lib.hid hk
        clear hk
        by_cases h4 : acc.length = 4096
        · have h4b : ((acc.length : Int) == 4096) = true := by simp; omega
          have H4 := Lib.hid h4
          clear h4
          go_wp2_with (refine wpList_load_mid rfl RdT (.tmp 1) rfl w.heap.size 0 rfl [.slice _ ts.length c, .int .i64 en, .int .i64 j, .int .i64 nd, .int .i64 0, .int .i64 0] _ HS2.out.range Tryd.underlying55 rfl rdSize ?_)
          refine (rfail_c (i := j) 8 w2 HS2.out.2.2.1 hl (by omega)).mono ?_
          rintro e w9 ⟨rfl, hb⟩
          have HS9 := Lib.hid (HS2.out.grow hb)
          clear hb
          go_wp2_with (refine wpList_store_row rfl RdT (.tmp 3) (.tmp 22) rfl (w.heap.size + 1) (rdV A c ts.length en (j : Nat) nd 8 (atT ts en (j))) rfl rfl RdT _ HS9.out.2.1 rdSize rfl (by simp [Value.oneCell']) ?_)
          refine bodyPost_ret (results_slot_row (P := Tryd.prog) Tryd.results59 _ _ (w.heap.size + 1) RdT (rdV A c ts.length en (j : Nat) nd 8 (atT ts en (j))) (0, 0) _ _ rfl rfl (setRow_heap _ _ _ _ _ _ HS9.out.2.1) Tryd.underlying55 rfl rdSize) rfl ?_
          have hre := (listM_big (f := g) (en := en) HK.out H4.out).symm.trans HL.out
          obtain rfl := Option.some.inj hre
          exact ⟨j, rfl, below_setRow HS9.out.2.2.2 (by omega) _⟩
        · have h4b : ((acc.length : Int) == 4096) = false := by simp; omega
          have H4 := Lib.hid h4
          have hal : acc.length < 4096 := by have := ha2; omega
          clear h4
          obtain ⟨gt, rfl, hgt, _, _, t2, _⟩ := HS2.out.2.2.1.at_ hjl
          have q0 : w2.cell? ⟨w.heap.size, 0, none⟩ = some (.slice (some ⟨gt, 0, none⟩) ts.length c) := HS2.out.cell 0
          have q2 : w2.cell? ⟨w.heap.size, 2, none⟩ = some (.int .i64 j) := HS2.out.cell 2
          have HN : Hid (nT ts j = (ts[j].n : Int)) := by show _ = _; unfold nT; rw [List.getElem?_eq_getElem hjl]
          generalize ts[j].n = nj at *
          have j0 : (0 : Int) ≤ (j : Int) := by omega
          have j1 : (j : Int) < (ts.length : Int) := by omega
          have hw2 : w.heap.size + 1 < w2.heap.size := (Array.getElem?_eq_some_iff.1 HS2.out.2.1).1
          go_wp2_with (at_builtin; refine wpList_append_own _ rfl (.tmp 23) (.tmp 31) 23 rfl (w.heap.size + 2) 3 i0 _ 1 8 Tryd.underlying23 HI.out HZ0.out HZ1.out HZ2.out rfl (by decide) _ acc.length (acc.map (Value.int .i64)) rfl (HO2.out.alloc _) ⟨w2.heap.size, 0, none⟩ 1 1 [.int .i64 nj] rfl rfl ?c1 ?c2 ?c3 ?c4 ?c5 ?_)
          case c1 => exact World.news_of_block (cs := #[.int .i64 nj]) (t := 3) (fr := (0, 0)) (heap_alloc_new w2 _)
          case c2 => intro u hu; simp at hu; subst hu; rfl
          case c3 => unfold maxLen; omega
          case c4 => omega
          case c5 => simp; omega
          intro v' w3 hown' hgw _
          have HO3 : Hid (OwnInts w3 (w.heap.size + 2) v' (acc ++ [nT ts j])) := by
            show w3.ownsRow _ _ _ _ _ _
            rw [HN.out, List.length_append, List.map_append]
            exact hown'
          have hb3 : Below (w.heap.size + 2) w2 w3 := ((Below.refl _ _).alloc (by omega) _).grown hgw (by simp; omega) (fun k hk => (HO2.out.lt k hk).1)
          have HS3 : Hid (RSt w w.heap.size (w.heap.size + 1) (some ⟨gt, 0, none⟩) c ts en j nd w3) := by
            have hbw := HS2.out.2.2.2.trans (hb3.mono (by omega))
            exact ⟨(hb3.block _ (by omega)).trans HS2.out.1, (hb3.block _ (by omega)).trans HS2.out.2.1, HT.out.grow hbw, hbw⟩
          clear hown' hgw hb3 q0 q2 t2 HS2 HO2
          obtain ⟨VA', Vk', rfl⟩ := HO3.out.len
          have r2 : w3.cell? ⟨w.heap.size, 2, none⟩ = some (.int .i64 j) := HS3.out.cell 2
          have f2 : w3.frozen? ⟨w.heap.size, 2, none⟩ = false := HS3.out.frozen 2
          have HS4 := Lib.hid (HS3.out.next HT.out (Nat.le_refl _) (by omega))
          have HO4 : Hid (OwnInts (w3.setCell ⟨w.heap.size, 2, none⟩ (.int .i64 ((j : Int) + 1))) (w.heap.size + 2) (.slice VA' (acc ++ [nT ts j]).length Vk') (acc ++ [nT ts j])) :=
            World.ownsRow.kept HO3.out (row := some w.heap.size) ⟨rfl, rfl, rfl, by simp [World.setCell], fun k _ hk => Below.heap_setCell _ _ _ _ (fun e => hk (by rw [e]))⟩ (.inr (fun e => by have := (HO3.out.lt w.heap.size e).1; omega))
          clear HS3 HO3
          go_upto_region 11 with fail
          go_simp
          clear r2 f2
          generalize w3.setCell ⟨w.heap.size, 2, none⟩ (.int .i64 ((j : Int) + 1)) = w4 at *
          clear w3
          have hl4 : (acc ++ [nT ts j]).length = acc.length + 1 := by simp
          go_wp2_with (refine wpList_load_mid rfl RdT (.tmp 1) rfl w.heap.size 0 rfl [.slice _ ts.length c, .int .i64 en, .int .i64 (j + 1 : Nat), .int .i64 nd, .int .i64 0, .int .i64 0] _ HS4.out.range Tryd.underlying55 rfl rdSize ?_)
          refine (ris_c (i := j + 1) 93 w4 HS4.out.2.2.1 hl (by omega)).mono ?_
          rintro e w5 ⟨rfl, hb⟩
          have HS5 := Lib.hid (HS4.out.grow hb)
          have HO5 := Lib.hid (own_grow HO4.out hb)
          clear hb HS4 HO4
          clear w4
          cases h93 : isT ts (j + 1) 93
          · go_wp2_with (refine wpList_load_mid rfl RdT (.tmp 1) rfl w.heap.size 0 rfl [.slice _ ts.length c, .int .i64 en, .int .i64 (j + 1 : Nat), .int .i64 nd, .int .i64 0, .int .i64 0] _ HS5.out.range Tryd.underlying55 rfl rdSize ?_)
            refine (ris_c (i := j + 1) 44 w5 HS5.out.2.2.1 hl (by omega)).mono ?_
            rintro e w6 ⟨rfl, hb⟩
            have HS6 := Lib.hid (HS5.out.grow hb)
            have HO6 := Lib.hid (own_grow HO5.out hb)
            clear hb HS5 HO5
            clear w5
            cases h44 : isT ts (j + 1) 44
            · go_wp2_with (refine wpList_load_mid rfl RdT (.tmp 1) rfl w.heap.size 0 rfl [.slice _ ts.length c, .int .i64 en, .int .i64 (j + 1 : Nat), .int .i64 nd, .int .i64 0, .int .i64 0] _ HS6.out.range Tryd.underlying55 rfl rdSize ?_)
              refine (rfail_c (i := j + 1) 14 w6 HS6.out.2.2.1 hl (by omega)).mono ?_
              rintro e w9 ⟨rfl, hb⟩
              have HS9 := Lib.hid (HS6.out.grow hb)
              clear hb
              go_wp2_with (refine wpList_store_row rfl RdT (.tmp 3) (.tmp 49) rfl (w.heap.size + 1) (rdV (some ⟨gt, 0, none⟩) c ts.length en (j + 1 : Nat) nd 14 (atT ts en (j + 1))) rfl rfl RdT _ HS9.out.2.1 rdSize rfl (by simp [Value.oneCell']) ?_)
              refine bodyPost_ret (results_slot_row (P := Tryd.prog) Tryd.results59 _ _ (w.heap.size + 1) RdT (rdV (some ⟨gt, 0, none⟩) c ts.length en (j + 1 : Nat) nd 14 (atT ts en (j + 1))) (0, 0) _ _ rfl rfl (setRow_heap _ _ _ _ _ _ HS9.out.2.1) Tryd.underlying55 rfl rdSize) rfl ?_
              have hre := (listM_bad (f := g) (en := en) HK.out H4.out h93 h44).symm.trans HL.out
              obtain rfl := Option.some.inj hre
              exact ⟨j + 1, rfl, below_setRow HS9.out.2.2.2 (by omega) _⟩
            · have hjl2 := isT_lt h44
              have r2 : w6.cell? ⟨w.heap.size, 2, none⟩ = some (.int .i64 ((j + 1 : Nat) : Int)) := HS6.out.cell 2
              have f2 : w6.frozen? ⟨w.heap.size, 2, none⟩ = false := HS6.out.frozen 2
              have HS7 := Lib.hid (HS6.out.next HT.out (Nat.le_refl _) (by omega))
              have HO7 : Hid (OwnInts (w6.setCell ⟨w.heap.size, 2, none⟩ (.int .i64 (((j + 1 : Nat) : Int) + 1))) (w.heap.size + 2) (.slice VA' (acc ++ [nT ts j]).length Vk') (acc ++ [nT ts j])) :=
                World.ownsRow.kept HO6.out (row := some w.heap.size) ⟨rfl, rfl, rfl, by simp [World.setCell], fun k _ hk => Below.heap_setCell _ _ _ _ (fun e => hk (by rw [e]))⟩ (.inr (fun e => by have := (HO6.out.lt w.heap.size e).1; omega))
              have HC := Lib.hid ((listM_comma (f := g) (en := en) HK.out H4.out h93 h44).symm.trans HL.out)
              clear h93 h44 HS6 HO6
              go_wp2_with fail
              go_roundg g
              case measure => omega
              case rel => exact ⟨j + 1 + 1, acc ++ [nT ts j], HC.out, by rw [← hl4]; exact HO7.out, HS7.out, by omega, by omega⟩
          · have hjl2 := isT_lt h93
            have r2 : w5.cell? ⟨w.heap.size, 2, none⟩ = some (.int .i64 ((j + 1 : Nat) : Int)) := HS5.out.cell 2
            have f2 : w5.frozen? ⟨w.heap.size, 2, none⟩ = false := HS5.out.frozen 2
            have HS7 : Hid (RSt w w.heap.size (w.heap.size + 1) (some ⟨gt, 0, none⟩) c ts en (j + 1 + 1) nd (w5.setCell ⟨w.heap.size, 2, none⟩ (.int .i64 ((j : Int) + 1 + 1)))) := HS5.out.next HT.out (Nat.le_refl _) (by omega)
            have HO7 : Hid (OwnInts (w5.setCell ⟨w.heap.size, 2, none⟩ (.int .i64 ((j : Int) + 1 + 1))) (w.heap.size + 2) (.slice VA' (acc ++ [nT ts j]).length Vk') (acc ++ [nT ts j])) :=
              World.ownsRow.kept HO5.out (row := some w.heap.size) ⟨rfl, rfl, rfl, by simp [World.setCell], fun k _ hk => Below.heap_setCell _ _ _ _ (fun e => hk (by rw [e]))⟩ (.inr (fun e => by have := (HO5.out.lt w.heap.size e).1; omega))
            have HC := Lib.hid ((listM_last (f := g) (en := en) HK.out H4.out h93).symm.trans HL.out)
            clear h93 HS5 HO5
            go_upto_region 13 with fail
            go_simp
            clear r2 f2
            generalize w5.setCell ⟨w.heap.size, 2, none⟩ (.int .i64 ((j : Int) + 1 + 1)) = w6 at *
            clear w5
            refine wp_region_keep_tail 3 (SBel w6) (by kernel_rfl) (by kernel_rfl) ((Below.refl _ _).drew) ?_
            simp only [List.take_succ_cons, List.take_zero, List.drop_succ_cons, List.drop_zero]
            have hw6 : w.heap.size < w6.heap.size := (Array.getElem?_eq_some_iff.1 HS7.out.1).1
            repeat (first
              | (refine keep_load_mid rfl RdT (.tmp 1) rfl w.heap.size 0 rfl [.slice (some ⟨gt, 0, none⟩) ts.length c, .int .i64 en, .int .i64 (j + 1 + 1 : Nat), .int .i64 nd, .int .i64 0, .int .i64 0] _ (fun w' hS => rangeAt_kept HS7.out.range hS hw6) Tryd.underlying55 rfl rdSize ?_
                 go_simp)
              | (apply keep_val rfl
                 · intro W' hS
                   go_simp
                   try rfl
                 go_simp))
            refine wpKeep_nil ?_
            intro w7 hS7
            have HS8 := Lib.hid (HS7.out.grow hS7)
            have HO8 := Lib.hid (own_grow HO7.out hS7)
            clear hS7
            go_wp2_with (refine wpList_store_row rfl RdT (.tmp 3) (.tmp 44) rfl (w.heap.size + 1) (rdV (some ⟨gt, 0, none⟩) c ts.length en (j + 1 + 1 : Nat) nd 0 0) rfl rfl RdT _ HS8.out.2.1 rdSize rfl (by simp [Value.oneCell']) ?_)
            refine bodyPost_ret (results_slot_row (P := Tryd.prog) Tryd.results59 _ _ (w.heap.size + 1) RdT (rdV (some ⟨gt, 0, none⟩) c ts.length en (j + 1 + 1 : Nat) nd 0 0) (0, 0) _ _ rfl rfl (setRow_heap _ _ _ _ _ _ HS8.out.2.1) Tryd.underlying55 rfl rdSize) rfl ?_
            obtain rfl := Option.some.inj HC.out
            obtain ⟨la, lc, hla, hint⟩ := ints_of_own (F := fun b => w.heap.size + 2 ≤ b) HO8.out (fun b hb => hb)
            refine ⟨la, lc, by rw [← hla, hl4]; rfl, ?_, below_setRow HS8.out.2.2.2 (by omega) _⟩
            exact hint.mono (fun b hb _ => ⟨by omega, setRow_other _ _ _ _ (by omega)⟩)
      · have hkk : (((kindT ts j : Nat) : Int) != 2) = true := by simp; omega
        have HK := Lib.hid hk
        clear hk
        go_wp2_with (refine wpList_load_mid rfl RdT (.tmp 1) rfl w.heap.size 0 rfl [.slice _ ts.length c, .int .i64 en, .int .i64 j, .int .i64 nd, .int .i64 0, .int .i64 0] _ HS2.out.range Tryd.underlying55 rfl rdSize ?_)
        refine (rfail_c (i := j) 14 w2 HS2.out.2.2.1 hl (by omega)).mono ?_
        rintro e w9 ⟨rfl, hb⟩
        have HS9 := Lib.hid (HS2.out.grow hb)
        clear hb
        go_wp2_with (refine wpList_store_row rfl RdT (.tmp 3) (.tmp 17) rfl (w.heap.size + 1) (rdV A c ts.length en (j : Nat) nd 14 (atT ts en (j))) rfl rfl RdT _ HS9.out.2.1 rdSize rfl (by simp [Value.oneCell']) ?_)
        refine bodyPost_ret (results_slot_row (P := Tryd.prog) Tryd.results59 _ _ (w.heap.size + 1) RdT (rdV A c ts.length en (j : Nat) nd 14 (atT ts en (j))) (0, 0) _ _ rfl rfl (setRow_heap _ _ _ _ _ _ HS9.out.2.1) Tryd.underlying55 rfl rdSize) rfl ?_
        have hre := (listM_notnum (f := g) (en := en) HK.out).symm.trans HL.out
        obtain rfl := Option.some.inj hre
        exact ⟨j, rfl, below_setRow HS9.out.2.2.2 (by omega) _⟩
  · have HR : Hid (r = .ok ([], i + 1)) := by
      show _ = _
      unfold listTop at hr
      rw [if_pos hb0] at hr
      exact (Option.some.inj hr).symm
    have HB0 := Lib.hid hb0
    have hil := isT_lt hb0
    clear hr hb0
    go_wp2_with (refine wpList_load_mid rfl RdT (.tmp 1) rfl w.heap.size 0 rfl [.slice _ ts.length c, .int .i64 en, .int .i64 i, .int .i64 nd, .int .i64 0, .int .i64 0] _ HS0.out.range Tryd.underlying55 rfl rdSize ?_)
    refine (ris_c (i := i) 93 W HS0.out.2.2.1 hl (by omega)).mono ?_
    rintro e w5 ⟨rfl, hb⟩
    rw [HB0.out]
    have HS5 := Lib.hid (HS0.out.grow hb)
    clear hb HS0 hwW
    have r2 : w5.cell? ⟨w.heap.size, 2, none⟩ = some (.int .i64 (i : Int)) := HS5.out.cell 2
    have f2 : w5.frozen? ⟨w.heap.size, 2, none⟩ = false := HS5.out.frozen 2
    have HS7 : Hid (RSt w w.heap.size (w.heap.size + 1) A c ts en (i + 1) nd (w5.setCell ⟨w.heap.size, 2, none⟩ (.int .i64 ((i : Int) + 1)))) := HS5.out.next HT.out (Nat.le_refl _) (by omega)
    clear HS5
    go_upto_region 4 with fail
    go_simp
    clear r2 f2
    generalize w5.setCell ⟨w.heap.size, 2, none⟩ (.int .i64 ((i : Int) + 1)) = w6 at *
    clear w5
    refine wp_region_keep_tail 3 (SBel w6) (by kernel_rfl) (by kernel_rfl) ((Below.refl _ _).drew) ?_
    simp only [List.take_succ_cons, List.take_zero, List.drop_succ_cons, List.drop_zero]
    have hw6 : w.heap.size < w6.heap.size := (Array.getElem?_eq_some_iff.1 HS7.out.1).1
    repeat (first
      | (refine keep_load_mid rfl RdT (.tmp 1) rfl w.heap.size 0 rfl [.slice A ts.length c, .int .i64 en, .int .i64 (i + 1 : Nat), .int .i64 nd, .int .i64 0, .int .i64 0] _ (fun w' hS => rangeAt_kept HS7.out.range hS hw6) Tryd.underlying55 rfl rdSize ?_
         go_simp)
      | (apply keep_val rfl
         · intro W' hS
           go_simp
           try rfl
         go_simp))
    refine wpKeep_nil ?_
    intro w7 hS7
    have HS8 := Lib.hid (HS7.out.grow hS7)
    clear hS7
    go_wp2_with (refine wpList_store_row rfl RdT (.tmp 3) (.tmp 12) rfl (w.heap.size + 1) (rdV A c ts.length en (i + 1 : Nat) nd 0 0) rfl rfl RdT _ HS8.out.2.1 rdSize rfl (by simp [Value.oneCell']) ?_)
    refine bodyPost_ret (results_slot_row (P := Tryd.prog) Tryd.results59 _ _ (w.heap.size + 1) RdT (rdV A c ts.length en (i + 1 : Nat) nd 0 0) (0, 0) _ _ rfl rfl (setRow_heap _ _ _ _ _ _ HS8.out.2.1) Tryd.underlying55 rfl rdSize) rfl ?_
    rw [HR.out]
    exact ⟨none, 0, rfl, fun h => absurd h (by simp), below_setRow HS8.out.2.2.2 (by omega) _⟩
#print axioms rlist_c
end Go.Proofs.YtbjagceopgofiaaDoor
