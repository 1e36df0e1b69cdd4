/-
  The reference's reader: args.
-/
import Derived.Test.YtbjagceopgofiaaDoorReadG
import Derived.Maps.AppendAt
namespace Go.Proofs.YtbjagceopgofiaaDoor
open Go.RowKit

set_option maxHeartbeats 8000000 in
set_option maxRecDepth 100000 in
theorem rargs_c {A : Option Addr} {c : Nat} {ts : List Tok} {en i nd : Nat} (d : Nat) (w : World) (h : TA w A ts) (hl : ts.length ≤ 65536) (hi : i ≤ ts.length) (hd : d ≤ 32) (hnd : nd ≤ 1024) (f : Nat)
    (ih : ∀ f' d' i' nd' w' r', f' < f → d' ≤ 33 → i' ≤ ts.length → nd' ≤ 1024 → TA w' A ts → exprM ts en f' d' i' nd' = some r' → Calls Tryd.prog 30 #[.agg (rdV A c ts.length en i' nd' 0 0), .int .i64 d'] w' (rexprPost w' A c ts en r'))
    (r : Except (Nat × Nat) (List E × Nat × Nat)) (hr : argsM ts en f d i nd [] = some r) :
    Calls Tryd.prog 60 #[.agg (rdV A c ts.length en i nd 0 0), .int .i64 ((d : Int) + 1)] w (rargsPost w A c ts en r) := by
  obtain ⟨f, rfl⟩ : ∃ g, f = g + 1 := by
    cases f with
    | zero => exact absurd hr (by simp [argsM])
    | succ g => exact ⟨g, rfl⟩
  have HT := Lib.hid h
  have HIH := Lib.hid ih
  have HS0 := Lib.hid (rst_start (c := c) (en := en) (i := i) (nd := nd) h)
  clear h ih
  go_enter Tryd.func60, Tryd.ntmps60
  go_upto_region 2 with fail
  change Code.wp _ _ _ _ ((w.alloc (.cells (rdV A c ts.length en i nd 0 0) RdT)).alloc (.cells zeroR RdT))
  generalize (w.alloc (.cells (rdV A c ts.length en i nd 0 0) RdT)).alloc (.cells zeroR RdT) = W at *
  have hwW : w.heap.size + 1 < W.heap.size := (Array.getElem?_eq_some_iff.1 HS0.out.2.1).1
  cases hb0 : isT ts i 41
  · have HR : Hid (_ = some r) := (argsM_first (f := f) (d := d) (nd := nd) (en := en) (acc := []) hb0 rfl).symm.trans hr
    have HB0 := Lib.hid hb0
    clear hr hb0
    obtain ⟨i0, hii, hz0, hz1, hz2⟩ := info_parts exprInfo
    have HI := Lib.hid hii
    have HZ0 := Lib.hid hz0
    have HZ1 := Lib.hid hz1
    have HZ2 := Lib.hid hz2
    clear hii hz0 hz1 hz2
    go_wp2_with (refine wpList_load_mid rfl RdT (.tmp 2) rfl w.heap.size 0 rfl [.slice A ts.length c, .int .i64 en, .int .i64 i, .int .i64 nd, .int .i64 0, .int .i64 0] _ HS0.out.range Tryd.underlying55 rfl rdSize ?_)
    refine (ris_c (i := i) 41 W HS0.out.2.2.1 hl (by omega)).mono ?_
    rintro e w1 ⟨rfl, hb⟩
    rw [HB0.out]
    have HS1 := Lib.hid (HS0.out.grow hb)
    clear hb HS0 hwW
    clear W
    go_wp2_with fail
    go_loopg [6] f (fun g v wr => RelRA w A c ts en d r f v g wr)
    case atStart => exact ⟨i, nd, [], [], Nat.le_refl _, HR.out, ⟨HS1.out, World.ownsRow_nil _ _ _ _, rfl, Nat.zero_le _⟩, hi, hnd⟩
    case round =>
      obtain ⟨j, nk, acc, xs, hgf, hm, harg, hj, hn⟩ := hrel
      have HA := Lib.hid harg
      clear harg HS1 HR HB0
      obtain ⟨VA, Vk, rfl⟩ := HA.out.shape
      rcases args_split hm with ⟨⟨er, ep⟩, hx, rfl⟩ | ⟨y, j2, nd2, hx, hrest⟩
      · have HER : Hid (er = 14 ∨ er = 8) := (rboth_err gk).1 _ _ _ _ _ hx
        have HC : Hid (Calls Tryd.prog 30 #[.agg (rdV A c ts.length en j nk 0 0), .int .i64 ((d : Int) + 1)] wr (rexprPost wr A c ts en (.error (er, ep)))) := HIH.out gk (d + 1) j nk wr _ (by omega) (by omega) hj hn HA.out.rst.2.2.1 hx
        clear hm hx
        go_wp2_with (refine wpList_load_mid rfl RdT (.tmp 2) rfl w.heap.size 0 rfl [.slice A ts.length c, .int .i64 en, .int .i64 j, .int .i64 nk, .int .i64 0, .int .i64 0] _ HA.out.rst.range Tryd.underlying55 rfl rdSize ?_)
        refine HC.out.mono ?_
        rintro e w2 ⟨k, nm, n, la, ll, lc, aa, al, ac, i', nd', rfl, hb⟩
        have HA2 := Lib.hid (HA.out.grow hb)
        clear HA HC hb
        go_upto_region 6 with (first
          | (refine wpList_store_row rfl 26 (.tmp 7) (.tmp 21) rfl w2.heap.size #[.int .i64 k, .string nm, .int .i64 n, .slice la ll lc, .slice aa al ac] rfl rfl 26 _ (heap_alloc2_old w2 _ _) exprSize rfl (by simp [Value.oneCell']) ?_)
          | (refine wpList_store_row rfl RdT (.tmp 8) (.tmp 22) rfl (w2.heap.size + 1) (rdV A c ts.length en (i' : Nat) (nd' : Nat) (er : Nat) (ep : Nat)) rfl rfl RdT _ ((setRow_other _ _ _ _ (by omega)).trans (heap_alloc2_new w2 _ _)) rdSize rfl (by simp [Value.oneCell']) ?_))
        change Code.wp _ _ _ _ (midW w2 #[.int .i64 k, .string nm, .int .i64 n, .slice la ll lc, .slice aa al ac] (rdV A c ts.length en (i' : Nat) (nd' : Nat) (er : Nat) (ep : Nat)))
        obtain ⟨m1, m2, m3⟩ := mid_facts w2 #[.int .i64 k, .string nm, .int .i64 n, .slice la ll lc, .slice aa al ac] (rdV A c ts.length en (i' : Nat) (nd' : Nat) (er : Nat) (ep : Nat))
        have M1 := Lib.hid m1
        have M2 := Lib.hid m2
        have M3 := Lib.hid m3
        clear m1 m2 m3
        generalize midW w2 #[.int .i64 k, .string nm, .int .i64 n, .slice la ll lc, .slice aa al ac] (rdV A c ts.length en (i' : Nat) (nd' : Nat) (er : Nat) (ep : Nat)) = w4 at *
        have HA4 := Lib.hid (HA2.out.grow M3.out)
        go_upto_region 7 with (first
          | (refine wpList_load_mid rfl RdT (.tmp 8) rfl (w2.heap.size + 1) 0 rfl [.slice A ts.length c, .int .i64 en, .int .i64 (i' : Nat), .int .i64 (nd' : Nat), .int .i64 (er : Nat), .int .i64 (ep : Nat)] _ (range_of_row5 (cs := [.slice A ts.length c, .int .i64 en, .int .i64 (i' : Nat), .int .i64 (nd' : Nat), .int .i64 (er : Nat), .int .i64 (ep : Nat)]) M2.out) Tryd.underlying55 rfl rdSize ?_)
          | (refine wpList_store_row rfl RdT (.tmp 2) (.tmp 23) rfl w.heap.size (rdV A c ts.length en (i' : Nat) (nd' : Nat) (er : Nat) (ep : Nat)) rfl rfl RdT _ HA4.out.rst.1 rdSize rfl (by simp [Value.oneCell']) ?_))
        go_simp

        obtain ⟨t1, t2, t3⟩ := HA4.out.taken (rd := (rdV A c ts.length en (i' : Nat) (nd' : Nat) (er : Nat) (ep : Nat)))
        have T1 := Lib.hid t1
        have T2 := Lib.hid t2
        have T3 := Lib.hid t3
        clear t1 t2 t3
        generalize w4.setRow w.heap.size (rdV A c ts.length en (i' : Nat) (nd' : Nat) (er : Nat) (ep : Nat)) = w5 at *
        have q4 : w5.cell? ⟨w.heap.size, 4, none⟩ = some (.int .i64 (er : Nat)) := cell_of_row _ _ 4 _ _ _ T1.out
        have her : (((er : Nat) : Int) != 0) = true := by simp; have := HER.out; omega
        go_upto_region 8 with fail
        go_simp
        clear q4
        refine wp_region_keep_tail 2 (SBel w5) (by kernel_rfl) (by kernel_rfl) ((Below.refl _ _).drew) ?_
        simp only [List.take_succ_cons, List.take_zero, List.drop_succ_cons, List.drop_zero]
        have hwz : w.heap.size < w5.heap.size := (Array.getElem?_eq_some_iff.1 T1.out).1
        repeat (first
          | (refine keep_load_mid rfl RdT (.tmp 2) rfl w.heap.size 0 rfl [.slice A ts.length c, .int .i64 en, .int .i64 (i' : Nat), .int .i64 (nd' : Nat), .int .i64 (er : Nat), .int .i64 (ep : Nat)] _ (fun w' hS => rangeAt_kept (range_of_row5 (cs := [.slice A ts.length c, .int .i64 en, .int .i64 (i' : Nat), .int .i64 (nd' : Nat), .int .i64 (er : Nat), .int .i64 (ep : Nat)]) T1.out) hS hwz) Tryd.underlying55 rfl rdSize ?_
             go_simp)
          | (apply keep_val rfl
             · intro W' hS
               go_simp
               try rfl
             go_simp))
        refine wpKeep_nil ?_
        intro w7 hS7
        have T8 := Lib.hid ((Below.block hS7 _ (Array.getElem?_eq_some_iff.1 T2.out).1).trans T2.out)
        have T9 := Lib.hid (T3.out.trans (Below.mono hS7 T3.out.size))
        clear hS7
        go_wp2_with (refine wpList_store_row rfl RdT (.tmp 5) (.tmp 27) rfl (w.heap.size + 1) (rdV A c ts.length en (i' : Nat) (nd' : Nat) (er : Nat) (ep : Nat)) rfl rfl RdT _ T8.out rdSize rfl (by simp [Value.oneCell']) ?_)
        refine bodyPost_ret (results_slot_row (P := Tryd.prog) Tryd.results60 _ _ (w.heap.size + 1) RdT (rdV A c ts.length en (i' : Nat) (nd' : Nat) (er : Nat) (ep : Nat)) (0, 0) _ _ rfl rfl (setRow_heap _ _ _ _ _ _ T8.out) Tryd.underlying55 rfl rdSize) rfl ?_

        exact ⟨i', nd', rfl, below_setRow T9.out (by omega) _⟩
      · have HC : Hid (Calls Tryd.prog 30 #[.agg (rdV A c ts.length en j nk 0 0), .int .i64 ((d : Int) + 1)] wr (rexprPost wr A c ts en (.ok (y, j2, nd2)))) := HIH.out gk (d + 1) j nk wr _ (by omega) (by omega) hj hn HA.out.rst.2.2.1 hx
        have HUP : Hid (nk < nd2) := (nodes_up gk).1 _ _ _ _ _ _ hx
        have HLE : Hid (nd2 ≤ 1024) := (nodes_le gk).1 _ _ _ _ _ _ hn hx
        have HJ : Hid (j2 ≤ ts.length) := (both_le gk).1 _ _ _ _ _ _ hx
        have HRE := Lib.hid hrest
        clear hm hx hrest
        go_wp2_with (refine wpList_load_mid rfl RdT (.tmp 2) rfl w.heap.size 0 rfl [.slice A ts.length c, .int .i64 en, .int .i64 j, .int .i64 nk, .int .i64 0, .int .i64 0] _ HA.out.rst.range Tryd.underlying55 rfl rdSize ?_)
        refine HC.out.mono ?_
        intro e w2 hpost
        obtain ⟨k, nm, n, la, ll, lc, aa, al, ac, rfl, hx1, hb⟩ := fresh_r hpost
        have HX := Lib.hid hx1
        have HA2 := Lib.hid (HA.out.grow hb)
        have hrw : w.heap.size + 2 ≤ wr.heap.size := by have := (Array.getElem?_eq_some_iff.1 HA.out.rst.2.1).1; omega
        have HOB : Hid (∀ k, (Value.slice VA acc.length Vk).ownBlock = some k → k < wr.heap.size) := fun k hk => (HA.out.own.lt k hk).2
        clear HC hb hpost hx1
        go_upto_region 6 with (first
          | (refine wpList_store_row rfl 26 (.tmp 7) (.tmp 21) rfl w2.heap.size #[.int .i64 k, .string nm, .int .i64 n, .slice la ll lc, .slice aa al ac] rfl rfl 26 _ (heap_alloc2_old w2 _ _) exprSize rfl (by simp [Value.oneCell']) ?_)
          | (refine wpList_store_row rfl RdT (.tmp 8) (.tmp 22) rfl (w2.heap.size + 1) (rdV A c ts.length en (j2 : Nat) (nd2 : Nat) 0 0) rfl rfl RdT _ ((setRow_other _ _ _ _ (by omega)).trans (heap_alloc2_new w2 _ _)) rdSize rfl (by simp [Value.oneCell']) ?_))
        change Code.wp _ _ _ _ (midW w2 #[.int .i64 k, .string nm, .int .i64 n, .slice la ll lc, .slice aa al ac] (rdV A c ts.length en (j2 : Nat) (nd2 : Nat) 0 0))
        obtain ⟨m1, m2, m3⟩ := mid_facts w2 #[.int .i64 k, .string nm, .int .i64 n, .slice la ll lc, .slice aa al ac] (rdV A c ts.length en (j2 : Nat) (nd2 : Nat) 0 0)
        have M1 := Lib.hid m1
        have M2 := Lib.hid m2
        have M3 := Lib.hid m3
        clear m1 m2 m3
        generalize midW w2 #[.int .i64 k, .string nm, .int .i64 n, .slice la ll lc, .slice aa al ac] (rdV A c ts.length en (j2 : Nat) (nd2 : Nat) 0 0) = w4 at *
        have HA4 := Lib.hid (HA2.out.grow M3.out)
        go_upto_region 7 with (first
          | (refine wpList_load_mid rfl RdT (.tmp 8) rfl (w2.heap.size + 1) 0 rfl [.slice A ts.length c, .int .i64 en, .int .i64 (j2 : Nat), .int .i64 (nd2 : Nat), .int .i64 0, .int .i64 0] _ (range_of_row5 (cs := [.slice A ts.length c, .int .i64 en, .int .i64 (j2 : Nat), .int .i64 (nd2 : Nat), .int .i64 0, .int .i64 0]) M2.out) Tryd.underlying55 rfl rdSize ?_)
          | (refine wpList_store_row rfl RdT (.tmp 2) (.tmp 23) rfl w.heap.size (rdV A c ts.length en (j2 : Nat) (nd2 : Nat) 0 0) rfl rfl RdT _ HA4.out.rst.1 rdSize rfl (by simp [Value.oneCell']) ?_))
        go_simp

        have HA5 := Lib.hid (HA4.out.turn (j := j2) (nd2 := nd2) HT.out (Nat.le_of_lt HUP.out))
        have HX5 : Hid (ExprC (w4.setRow w.heap.size (rdV A c ts.length en (j2 : Nat) (nd2 : Nat) 0 0)) (fun b => wr.heap.size ≤ b) y [.int .i64 k, .string nm, .int .i64 n, .slice la ll lc, .slice aa al ac]) := ExprC.mono (fun b hb hbl => ⟨hb, (setRow_other _ _ _ _ (by omega)).trans (M3.out.block b hbl)⟩) y _ HX.out
        have M5 : Hid ((w4.setRow w.heap.size (rdV A c ts.length en (j2 : Nat) (nd2 : Nat) 0 0)).heap[w2.heap.size]? = some (.cells #[.int .i64 k, .string nm, .int .i64 n, .slice la ll lc, .slice aa al ac] 26 (0, 0))) := (setRow_other _ _ _ _ (by have := (Array.getElem?_eq_some_iff.1 HA2.out.rst.2.1).1; omega)).trans M1.out
        clear HA4 M1 M2 M3 HA2 HX
        generalize w4.setRow w.heap.size (rdV A c ts.length en (j2 : Nat) (nd2 : Nat) 0 0) = w5 at *
        have q4 : w5.cell? ⟨w.heap.size, 4, none⟩ = some (.int .i64 0) := HA5.out.rst.cell 4
        have hcn : acc.length < 1024 := by have := HA.out.cnt; have := HUP.out; have := HLE.out; omega
        have hw5 : w.heap.size + 1 < w5.heap.size := (Array.getElem?_eq_some_iff.1 HA5.out.rst.2.1).1
        go_wp2_with (first
          | (refine wpList_load_mid rfl 26 (.tmp 7) rfl w2.heap.size 0 rfl [.int .i64 k, .string nm, .int .i64 n, .slice la ll lc, .slice aa al ac] _ (range_of_row5 (cs := [.int .i64 k, .string nm, .int .i64 n, .slice la ll lc, .slice aa al ac]) M5.out) Tryd.underlying26 rfl exprSize ?_)
          | (at_builtin; go_loud (refine wpList_append_own_at _ rfl (.tmp 28) (.tmp 30) 24 rfl (w.heap.size + 2) 26 i0 _ 5 80 Tryd.underlying24 HI.out HZ0.out HZ1.out HZ2.out rfl (by decide) (.slice VA acc.length Vk) acc.length xs rfl (HA5.out.own.alloc _) ⟨w5.heap.size, 0, none⟩ 1 1 [.int .i64 k, .string nm, .int .i64 n, .slice la ll lc, .slice aa al ac] rfl rfl ?c1 ?c2 ?c3 ?c4 ?c5 ?_)))
        case c1 => exact World.news_of_block (cs := #[.int .i64 k, .string nm, .int .i64 n, .slice la ll lc, .slice aa al ac]) (t := 26) (fr := (0, 0)) (heap_alloc_new w5 _)
        case c2 => simp [Value.oneCell']
        case c3 => unfold maxLen; omega
        case c4 => omega
        case c5 => simp; omega
        intro v' w6 hown' hgrow _ hat
        obtain ⟨gg, cap, rfl⟩ : ∃ gg cap, v' = .slice (some ⟨gg, 0, none⟩) (acc.length + 1) cap := by
          rcases hown'.2 with ⟨_, h0⟩ | ⟨g, cap, cur, hv, _⟩
          · omega
          · exact ⟨g, cap, hv⟩
        have HP := Lib.hid (HA5.out.put HT.out (Nat.lt_of_le_of_lt HA.out.cnt HUP.out) hrw HOB.out HX5.out ((Below.refl _ _).alloc (Nat.le_refl _) _) hown' hgrow (hat.elim (fun e => .inl (Eq.symm e)) (fun e => .inr (Nat.le_of_eq ((World.size_alloc _ _).trans (Option.some.inj e).symm)))))
        clear hown' hgrow hat HA5 HX5 M5 q4 hw5 HA HOB hrw
        have hjl := HJ.out
        go_wp2_with (refine wpList_load_mid rfl RdT (.tmp 2) rfl w.heap.size 0 rfl [.slice A ts.length c, .int .i64 en, .int .i64 j2, .int .i64 nd2, .int .i64 0, .int .i64 0] _ HP.out.rst.range Tryd.underlying55 rfl rdSize ?_)
        refine (ris_c (i := j2) 41 w6 HP.out.rst.2.2.1 hl (by omega)).mono ?_
        rintro e w8 ⟨rfl, hb⟩
        have HP8 := Lib.hid (HP.out.grow hb)
        clear hb HP
        obtain ⟨g, rfl⟩ : ∃ g, gk = g + 1 := by
          cases gk with
          | zero => exact absurd HRE.out (by simp [argsM])
          | succ g => exact ⟨g, rfl⟩
        cases h41 : isT ts j2 41
        · have HH41 := Lib.hid h41
          clear h41
          go_wp2_with (refine wpList_load_mid rfl RdT (.tmp 2) rfl w.heap.size 0 rfl [.slice A ts.length c, .int .i64 en, .int .i64 j2, .int .i64 nd2, .int .i64 0, .int .i64 0] _ HP8.out.rst.range Tryd.underlying55 rfl rdSize ?_)
          refine (ris_c (i := j2) 44 w8 HP8.out.rst.2.2.1 hl (by omega)).mono ?_
          rintro e w9 ⟨rfl, hb⟩
          have HP9 := Lib.hid (HP8.out.grow hb)
          clear hb HP8
          cases h44 : isT ts j2 44
          · have HRR := Lib.hid ((argsM_bad (en := en) (f := g) (d := d) (nd := nd2) (acc := acc ++ [y]) HH41.out (by simp) h44).symm.trans HRE.out)
            clear h44
            go_wp2_with (refine wpList_load_mid rfl RdT (.tmp 2) rfl w.heap.size 0 rfl [.slice A ts.length c, .int .i64 en, .int .i64 j2, .int .i64 nd2, .int .i64 0, .int .i64 0] _ HP9.out.rst.range Tryd.underlying55 rfl rdSize ?_)
            refine (rfail_c (i := j2) 14 w9 HP9.out.rst.2.2.1 hl (by omega)).mono ?_
            rintro e w10 ⟨rfl, hb⟩
            have HP10 := Lib.hid (HP9.out.grow hb)
            clear hb HP9
            go_wp2_with (refine wpList_store_row rfl RdT (.tmp 5) (.tmp 44) rfl (w.heap.size + 1) (rdV A c ts.length en j2 nd2 14 (atT ts en j2)) rfl rfl RdT _ HP10.out.rst.2.1 rdSize rfl (by simp [Value.oneCell']) ?_)
            refine bodyPost_ret (results_slot_row (P := Tryd.prog) Tryd.results60 _ _ (w.heap.size + 1) RdT (rdV A c ts.length en j2 nd2 14 (atT ts en j2)) (0, 0) _ _ rfl rfl (setRow_heap _ _ _ _ _ _ HP10.out.rst.2.1) Tryd.underlying55 rfl rdSize) rfl ?_

            obtain rfl := Option.some.inj HRR.out
            exact ⟨j2, nd2, rfl, below_setRow HP10.out.rst.2.2.2 (by omega) _⟩
          · have hjl2 := isT_lt h44
            have HRR := Lib.hid ((argsM_next (en := en) (f := g) (d := d) (nd := nd2) (acc := acc ++ [y]) HH41.out (by simp) h44).symm.trans HRE.out)
            have q2 : w9.cell? ⟨w.heap.size, 2, none⟩ = some (.int .i64 (j2 : Int)) := HP9.out.rst.cell 2
            have f2 : w9.frozen? ⟨w.heap.size, 2, none⟩ = false := HP9.out.rst.frozen 2
            have HPN := Lib.hid (HP9.out.next HT.out)
            clear h44 HP9
            go_wp2_with fail
            go_roundg g
            case measure => omega
            case rel => exact ⟨_, _, _, _, by omega, HRR.out, HPN.out, by omega, HLE.out⟩
        · have hjl2 := isT_lt h41
          have HRR := Lib.hid ((argsM_end (en := en) (f := g) (d := d) (nd := nd2) (acc := acc ++ [y]) h41).symm.trans HRE.out)
          have q2 : w8.cell? ⟨w.heap.size, 2, none⟩ = some (.int .i64 (j2 : Int)) := HP8.out.rst.cell 2
          have f2 : w8.frozen? ⟨w.heap.size, 2, none⟩ = false := HP8.out.rst.frozen 2
          have HPN := Lib.hid (HP8.out.next HT.out)
          clear h41 HP8
          go_upto_region 12 with fail
          go_simp
          clear q2 f2
          generalize w8.setCell ⟨w.heap.size, 2, none⟩ (.int .i64 ((j2 : Int) + 1)) = w9 at *
          refine wp_region_keep_tail 3 (SBel w9) (by kernel_rfl) (by kernel_rfl) ((Below.refl _ _).drew) ?_
          simp only [List.take_succ_cons, List.take_zero, List.drop_succ_cons, List.drop_zero]
          have hwz : w.heap.size < w9.heap.size := (Array.getElem?_eq_some_iff.1 HPN.out.rst.1).1
          repeat (first
            | (refine keep_load_mid rfl RdT (.tmp 2) rfl w.heap.size 0 rfl [.slice A ts.length c, .int .i64 en, .int .i64 (j2 + 1 : Nat), .int .i64 nd2, .int .i64 0, .int .i64 0] _ (fun w' hS => rangeAt_kept (range_of_row5 (cs := [.slice A ts.length c, .int .i64 en, .int .i64 (j2 + 1 : Nat), .int .i64 nd2, .int .i64 0, .int .i64 0]) HPN.out.rst.1) hS hwz) Tryd.underlying55 rfl rdSize ?_
               go_simp)
            | (apply keep_val rfl
               · intro W' hS
                 go_simp
                 try rfl
               go_simp))
          refine wpKeep_nil ?_
          intro w7 hS7
          have HQ := Lib.hid (HPN.out.grow hS7)
          clear hS7 HPN
          go_wp2_with (refine wpList_store_row rfl RdT (.tmp 5) (.tmp 39) rfl (w.heap.size + 1) (rdV A c ts.length en (j2 + 1 : Nat) nd2 0 0) rfl rfl RdT _ HQ.out.rst.2.1 rdSize rfl (by simp [Value.oneCell']) ?_)
          refine bodyPost_ret (results_slot_row (P := Tryd.prog) Tryd.results60 _ _ (w.heap.size + 1) RdT (rdV A c ts.length en (j2 + 1 : Nat) nd2 0 0) (0, 0) _ _ rfl rfl (setRow_heap _ _ _ _ _ _ HQ.out.rst.2.1) Tryd.underlying55 rfl rdSize) rfl ?_

          obtain rfl := Option.some.inj HRR.out
          obtain ⟨a2, c2, hv, hex⟩ := HQ.out.args
          refine ⟨a2, c2, by rw [← hv]; rfl, fun hz => ?_, below_setRow HQ.out.rst.2.2.2 (by omega) _⟩
          obtain ⟨b, o, e, hb, hxs⟩ := hex hz
          exact ⟨b, o, e, by omega, ExprsC.mono (fun b hb _ => ⟨by omega, setRow_other _ _ _ _ (by omega)⟩) (setRow_other _ _ _ _ (by omega)) _ o hxs⟩
  · have HR := Lib.hid ((argsM_end (f := f) (d := d) (nd := nd) (en := en) (acc := []) hb0).symm.trans hr)
    have HB0 := Lib.hid hb0
    have hil := isT_lt hb0
    clear hr hb0
    go_wp2_with (refine wpList_load_mid rfl RdT (.tmp 2) rfl w.heap.size 0 rfl [.slice A ts.length c, .int .i64 en, .int .i64 i, .int .i64 nd, .int .i64 0, .int .i64 0] _ HS0.out.range Tryd.underlying55 rfl rdSize ?_)
    refine (ris_c (i := i) 41 W HS0.out.2.2.1 hl (by omega)).mono ?_
    rintro e w5 ⟨rfl, hb⟩
    rw [HB0.out]
    have HS5 := Lib.hid (HS0.out.grow hb)
    clear hb HS0 hwW
    have r2 : w5.cell? ⟨w.heap.size, 2, none⟩ = some (.int .i64 (i : Int)) := HS5.out.cell 2
    have f2 : w5.frozen? ⟨w.heap.size, 2, none⟩ = false := HS5.out.frozen 2
    have HS7 : Hid (RSt w w.heap.size (w.heap.size + 1) A c ts en (i + 1) nd (w5.setCell ⟨w.heap.size, 2, none⟩ (.int .i64 ((i : Int) + 1)))) := HS5.out.next HT.out (Nat.le_refl _) (by omega)
    clear HS5
    go_upto_region 4 with fail
    go_simp
    clear r2 f2
    generalize w5.setCell ⟨w.heap.size, 2, none⟩ (.int .i64 ((i : Int) + 1)) = w6 at *
    clear w5
    refine wp_region_keep_tail 3 (SBel w6) (by kernel_rfl) (by kernel_rfl) ((Below.refl _ _).drew) ?_
    simp only [List.take_succ_cons, List.take_zero, List.drop_succ_cons, List.drop_zero]
    have hwz : w.heap.size < w6.heap.size := (Array.getElem?_eq_some_iff.1 HS7.out.1).1
    repeat (first
      | (refine keep_load_mid rfl RdT (.tmp 2) rfl w.heap.size 0 rfl [.slice A ts.length c, .int .i64 en, .int .i64 (i + 1 : Nat), .int .i64 nd, .int .i64 0, .int .i64 0] _ (fun w' hS => rangeAt_kept (range_of_row5 (cs := [.slice A ts.length c, .int .i64 en, .int .i64 (i + 1 : Nat), .int .i64 nd, .int .i64 0, .int .i64 0]) HS7.out.1) hS hwz) Tryd.underlying55 rfl rdSize ?_
         go_simp)
      | (apply keep_val rfl
         · intro W' hS
           go_simp
           try rfl
         go_simp))
    refine wpKeep_nil ?_
    intro w7 hS7
    have HS8 := Lib.hid (HS7.out.grow hS7)
    clear hS7 HS7
    go_wp2_with (refine wpList_store_row rfl RdT (.tmp 5) (.tmp 16) rfl (w.heap.size + 1) (rdV A c ts.length en (i + 1 : Nat) nd 0 0) rfl rfl RdT _ HS8.out.2.1 rdSize rfl (by simp [Value.oneCell']) ?_)
    refine bodyPost_ret (results_slot_row (P := Tryd.prog) Tryd.results60 _ _ (w.heap.size + 1) RdT (rdV A c ts.length en (i + 1 : Nat) nd 0 0) (0, 0) _ _ rfl rfl (setRow_heap _ _ _ _ _ _ HS8.out.2.1) Tryd.underlying55 rfl rdSize) rfl ?_

    obtain rfl := Option.some.inj HR.out
    exact ⟨none, 0, rfl, fun h => absurd h (by simp), below_setRow HS8.out.2.2.2 (by omega) _⟩
#print axioms rargs_c
end Go.Proofs.YtbjagceopgofiaaDoor
