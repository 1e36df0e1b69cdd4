/-
  The parser's method expr: a call with its arguments.
-/
import Derived.Test.YtbjagceopgofiaaDoorParsG
import Derived.IntWalk
import Derived.RegionDies
import Derived.Deep.RegionLaw
namespace Go.Proofs.YtbjagceopgofiaaDoor
open Go.RowKit

theorem range_of_row {w : World} {b : Nat} {cs : List Value} {t : TypeId} (h : w.heap[b]? = some (.cells cs.toArray t (0, 0))) : w.rangeAt b 0 cs := fun j v hv => by
  rw [Nat.zero_add, cell_of_row w b j _ t (0, 0) h]
  simpa using hv
/-- What the loop over the arguments keeps. -/
def RelArgs (w : World) (gp tb : Nat) (A : Option Addr) (c : Nat) (ts : List Tok) (en bx : Nat) (nm : List UInt8) (d : Nat) (r0 : Except (Nat × Nat) (List E × Nat × Nat)) (f0 g : Nat) (wr : World) : Prop :=
  ∃ j nd va acc xs, g ≤ f0 ∧ argsM ts en g d j nd acc = some r0 ∧ ArgSt w gp tb A c ts en bx nm j nd va acc xs wr

/-- A fresh expression that a call of expr hands on. -/
def Fresh (w0 : World) (gp tb : Nat) (A : Option Addr) (c : Nat) (ts : List Tok) (en : Nat) (y : E) (j nd : Nat) (bx : Nat) (v4 : Value) (e : Ending) (w' : World) : Prop :=
  ∃ k nm n la ll lc aa al ac, e = .returned (.agg #[.int .i64 k, .string nm, .int .i64 n, .slice la ll lc, .slice aa al ac]) ∧ ExprC w' (fun b => w0.heap.size ≤ b) y [.int .i64 k, .string nm, .int .i64 n, .slice la ll lc, .slice aa al ac] ∧
    PSt w' gp tb A c ts en j nd ∧ w0.grownBy w' (some gp) ∧ w'.cell? ⟨bx, 4, none⟩ = some v4 ∧ w'.frozen? ⟨bx, 4, none⟩ = false
theorem fresh_of {w0 : World} {gp tb : Nat} {A : Option Addr} {c : Nat} {ts : List Tok} {en : Nat} {y : E} {j nd bx : Nat} {v4 : Value} {e : Ending} {w' : World} (h : exprPost w0 gp tb A c ts en (.ok (y, j, nd)) e w') (hc : w0.cell? ⟨bx, 4, none⟩ = some v4) (hf : w0.frozen? ⟨bx, 4, none⟩ = false) (hlt : bx < w0.heap.size) (hne : bx ≠ gp) : Fresh w0 gp tb A c ts en y j nd bx v4 e w' := by
  obtain ⟨cs, rfl, h1, h2, h3⟩ := h
  cases y
  have h1' := h1
  unfold ExprC at h1'
  obtain ⟨la, lc, aa, ac, rfl, _⟩ := h1'
  exact ⟨_, _, _, _, _, _, _, _, _, rfl, h1, h2, h3, (World.cell?_of_block (a := ⟨bx, 4, none⟩) (h3.block bx hlt (fun e => hne (Option.some.inj e)))).trans hc, (World.frozen?_of_block (a := ⟨bx, 4, none⟩) (h3.block bx hlt (fun e => hne (Option.some.inj e)))).trans hf⟩
theorem keep_alloc {w : World} {o : Obj} {b : Nat} {v : Value} (h : b < w.heap.size) (hc : w.cell? ⟨b, 4, none⟩ = some v) (hf : w.frozen? ⟨b, 4, none⟩ = false) : (w.alloc o).cell? ⟨b, 4, none⟩ = some v ∧ (w.alloc o).frozen? ⟨b, 4, none⟩ = false :=
  ⟨(((Below.refl w.heap.size w).alloc (Nat.le_refl _) o).cell (p := ⟨b, 4, none⟩) h).trans hc, (((Below.refl w.heap.size w).alloc (Nat.le_refl _) o).frozen (p := ⟨b, 4, none⟩) h).trans hf⟩

set_option maxHeartbeats 8000000 in
set_option maxRecDepth 100000 in
theorem expr_call {gp tb : Nat} {A : Option Addr} {c : Nat} {ts : List Tok} {en i nd : Nat} (d : Nat) (w : World) (h : PSt w gp tb A c ts en i nd) (hd : d ≤ 32) (hnd : nd ≠ 1024) (hk : kindT ts i = 1) (hk3 : isT ts i 91 = false) (h40 : isT ts (i + 1) 40 = true) (f : Nat)
    (ih : ∀ f' d' i' nd' w' r', f' ≤ f → d' ≤ 33 → PSt w' gp tb A c ts en i' nd' → exprM ts en f' d' i' nd' = some r' → Calls Tryd.prog 27 #[.pointer (some ⟨gp, 0, none⟩), .int .i64 d'] w' (exprPost w' gp tb A c ts en r'))
    (r0 : Except (Nat × Nat) (List E × Nat × Nat)) (r : Except (Nat × Nat) (E × Nat × Nat)) (hr : r = callRes (textT ts i) r0) (hl : argsM ts en f d (i + 2) (nd + 1) [] = some r0) :
    Calls Tryd.prog 27 #[.pointer (some ⟨gp, 0, none⟩), .int .i64 d] w (exprPost w gp tb A c ts en r) := by
  have HIL : Hid (i < ts.length) := kindT_lt (by omega)
  have hil := HIL.out
  have i0' : (0 : Int) ≤ (i : Int) := by omega
  have i1' : (i : Int) < (ts.length : Int) := by omega
  have H := Lib.hid h
  have HR := Lib.hid hr
  have hli := h.li
  have hlts := h.lts
  have hlnd := h.lnd
  have HTB : Hid (∀ k, k < ts.length → tb < w.heap.size) := fun k hk => h.toks.lt hk
  have HK3 := Lib.hid hk3
  have hn1 : ((nd : Int) == 1024) = false := by simp; omega
  have hnd2 : nd < 1024 := by omega
  have hd1 : ¬ 32 < d := by omega
  have htbw : tb < w.heap.size := h.toks.lt HIL.out
  clear h hr hk3 hnd
  have HIH := Lib.hid ih
  have HL := Lib.hid hl
  clear ih hl
  have q1 : (((kindT ts i : Nat) : Int) != 2) = true := by simp; omega
  have q2 : (((kindT ts i : Nat) : Int) != 1) = false := by simp; omega
  have q3 : (((kindT ts i : Nat) : Int) == 2) = false := by simp; omega
  have H40 := Lib.hid h40
  clear h40
  clear hk
  obtain ⟨i0, hi, hz0, hz1, hz2⟩ := info_parts exprInfo
  have HI := Lib.hid hi
  have HZ0 := Lib.hid hz0
  have HZ1 := Lib.hid hz1
  have HZ2 := Lib.hid hz2
  clear hi hz0 hz1 hz2
  go_enter Tryd.func27, Tryd.ntmps27
  go_upto_region 1 with fail
  have HE1 := Lib.hid (ESt.start H.out)
  change Code.wp _ _ _ _ (w.alloc (.cells zeroE 26))
  generalize w.alloc (.cells zeroE 26) = W1 at *
  have p1 : W1.cell? ⟨gp, 1, none⟩ = some (.int .i64 i) := HE1.out.1.cell 1
  have hgp1 : gp < W1.heap.size := HE1.out.1.lt
  go_cut [5, 6] (fun s5 s6 wx => CutStart W1 i (atT ts en i) s5 s6 wx)
  case first =>
    refine wp_region_keep (SAt W1 gp i) (by kernel_rfl) (by kernel_rfl) ⟨(Below.refl _ _).drew, p1⟩ ?_
    repeat (first
      | (apply keep_val rfl
         · intro W hS
           obtain ⟨_, e1⟩ := hS
           go_simp
           rfl
         go_simp)
      | (apply keep_call rfl
         · intro W hS
           go_simp
           exact ⟨rfl, rfl⟩
         · intro W hS
           exact (at_c W (HE1.out.1.grow hS.1)).mono (by rintro e w' ⟨rfl, hb⟩; exact ⟨rfl, hS.1.trans (hb.mono hS.1.size), (hb.cell (p := ⟨gp, 1, none⟩) (by have := hS.1.size; show gp < _; omega)).trans hS.2⟩)
         go_simp))
    refine wpKeep_nil ?_
    intro w2 hS2
    go_wp2_with fail
    go_meet
    exact ⟨rfl, rfl, hS2.1⟩
  case rest =>
    obtain ⟨rfl, rfl, hb⟩ := hcut
    have HE2 := Lib.hid (HE1.out.grow hb)
    clear hb HE1 p1 hgp1
    go_wp2_with fail
    refine (is_no 91 _ HE2.out.1 HK3.out).mono ?_
    rintro e w3 ⟨rfl, hb⟩
    have HE3 := Lib.hid (HE2.out.grow hb)
    clear hb HE2
    go_wp2_with fail
    refine (kind_c _ HE3.out.1).mono ?_
    rintro e w4 ⟨rfl, hb⟩
    have HE4 := Lib.hid (HE3.out.grow hb)
    clear hb HE3
    have p3 : w4.cell? ⟨gp, 3, none⟩ = some (.int .i64 nd) := HE4.out.1.cell 3
    have f3 : w4.frozen? ⟨gp, 3, none⟩ = false := HE4.out.1.frozen 3
    go_upto_region 11 with fail
    have HE5 : Hid (ESt w gp tb A c ts en i (nd + 1) (w4.setCell ⟨gp, 3, none⟩ (.int .i64 ((nd : Int) + 1)))) := HE4.out.via (HE4.out.1.node (by omega)).2 (HE4.out.1.node (by omega)).1
    obtain ⟨rfl, hrg⟩ := HE5.out.1.toks i ts[i] (List.getElem?_eq_getElem hil)
    have p1 : (w4.setCell ⟨gp, 3, none⟩ (.int .i64 ((nd : Int) + 1))).cell? ⟨gp, 1, none⟩ = some (.int .i64 i) := HE5.out.1.cell 1
    have f1 : (w4.setCell ⟨gp, 3, none⟩ (.int .i64 ((nd : Int) + 1))).frozen? ⟨gp, 1, none⟩ = false := HE5.out.1.frozen 1
    generalize w4.setCell ⟨gp, 3, none⟩ (.int .i64 ((nd : Int) + 1)) = w5 at *
    go_upto_region 12 with fail
    have HE6 : Hid (ESt w gp tb (some ⟨tb, 0, none⟩) c ts en (i + 1) (nd + 1) (w5.setCell ⟨gp, 1, none⟩ (.int .i64 ((i : Int) + 1)))) := HE5.out.via (HE5.out.1.step (k := 1) (Below.refl _ _) (by omega)).2 (HE5.out.1.step (k := 1) (Below.refl _ _) (by omega)).1
    clear hrg HE4 HE5 p3 f3 p1 f1
    generalize w5.setCell ⟨gp, 1, none⟩ (.int .i64 ((i : Int) + 1)) = w6 at *
    obtain ⟨_, hrg6⟩ := HE6.out.1.toks i ts[i] (List.getElem?_eq_getElem hil)
    have p0 : w6.cell? ⟨gp, 0, none⟩ = some (.slice (some ⟨tb, 0, none⟩) ts.length c) := HE6.out.1.cell 0
    have HNT : Hid (nT ts i = (ts[i].n : Int)) := by show _ = _; unfold nT; rw [List.getElem?_eq_getElem hil]
    have HTX : Hid (textT ts i = ts[i].text) := by show _ = _; unfold textT; rw [List.getElem?_eq_getElem hil]
    have HTK : Hid (w6.rangeAt tb (i * 4) [.int .i64 ts[i].kind, .string ⟨ts[i].text.toArray⟩, .int .i64 ts[i].n, .int .i64 ts[i].pos]) := hrg6
    clear hrg6
    generalize ts[i] = tk at *
    have HE7 : Hid (ESt w gp tb (some ⟨tb, 0, none⟩) c ts en (i + 1) (nd + 1) (w6.alloc (.cells #[.int .i64 tk.kind, .string ⟨tk.text.toArray⟩, .int .i64 tk.n, .int .i64 tk.pos] 40))) := HE6.out.grow ((Below.refl _ _).alloc (Nat.le_refl _) _)
    go_wp2_with (first
      | (refine wpList_load_mid rfl 40 (.tmp 65) rfl tb (i * 4) rfl [.int .i64 tk.kind, .string ⟨tk.text.toArray⟩, .int .i64 tk.n, .int .i64 tk.pos] _ HTK.out Tryd.underlying40 rfl tokSize ?_)
      | (refine wpList_store_new rfl 40 (.tmp 9) (.tmp 66) rfl w6 _ #[.int .i64 tk.kind, .string ⟨tk.text.toArray⟩, .int .i64 tk.n, .int .i64 tk.pos] rfl rfl tokSize rfl (by simp [Value.oneCell']) ?_))
    refine (is_yes 40 _ HE7.out.1 H40.out).mono ?_
    rintro e w8 ⟨rfl, hp, hg⟩
    have HE8 := Lib.hid (HE7.out.via hg hp)
    have p81 : w8.cell? ⟨w6.heap.size, 1, none⟩ = some (.string ⟨tk.text.toArray⟩) := by
      rw [World.cell?_of_block (a := ⟨w6.heap.size, 1, none⟩) (hg.block w6.heap.size (by rw [World.size_alloc]; exact Nat.lt_succ_self _) (fun e => by have := HE6.out.1.lt; have := Option.some.inj e; omega))]
      exact World.cell?_alloc_new _ _ _ 1
    clear hp hg HE7 HE6
    rw [HTX.out] at HR
    generalize tk.text = nm at *
    go_wp2_with (refine wpList_store_new rfl 26 (.tmp 10) (.tmp 80) rfl w8 _ #[.int .i64 3, .string ⟨nm.toArray⟩, .int .i64 0, .slice none 0 0, .slice none 0 0] rfl rfl exprSize rfl (by simp [Value.oneCell']) ?_)
    dsimp only [Act.put]
    have HA0 : Hid (ArgSt w gp tb (some ⟨tb, 0, none⟩) c ts en w8.heap.size nm (i + 2) (nd + 1) (.slice none 0 0) [] [] (w8.alloc (.cells #[.int .i64 3, .string ⟨nm.toArray⟩, .int .i64 0, .slice none 0 0, .slice none 0 0] 26))) := ArgSt.start HE8.out
    generalize w8.alloc (.cells #[.int .i64 3, .string ⟨nm.toArray⟩, .int .i64 0, .slice none 0 0, .slice none 0 0] 26) = w9 at *
    clear HE8 p81 HTK HTX HNT p0 HK3 H40
    generalize w8.heap.size = bx at *
    go_loopg [] f (fun g wr => RelArgs w gp tb (some ⟨tb, 0, none⟩) c ts en bx nm d r0 f g wr)
    case atStart => exact ⟨_, _, _, _, _, Nat.le_refl _, HL.out, HA0.out⟩
    case round =>
      clear HA0 HL
      obtain ⟨j, nk, va, acc, xs, hgf, hlm, harg⟩ := hrel
      have HL := Lib.hid hlm
      have HA := Lib.hid harg
      clear hlm harg
      obtain ⟨g, rfl⟩ : ∃ g, gk = g + 1 := by
        cases gk with
        | zero => exact absurd HL.out (by simp [argsM])
        | succ g => exact ⟨g, rfl⟩
      have hjl := HA.out.est.1.li
      have hnl := HA.out.est.1.lnd
      cases h41 : isT ts j 41
      · have HH41 := Lib.hid h41
        clear h41
        go_wp2_with fail
        refine (is_no 41 _ HA.out.est.1 HH41.out).mono ?_
        rintro e w10 ⟨rfl, hb⟩
        have HA10 := Lib.hid (HA.out.grow hb)
        clear hb HA
        obtain ⟨VA, Vk, rfl⟩ := HA10.out.shape
        have hc4 : w10.cell? ⟨bx, 4, none⟩ = some (.slice VA acc.length Vk) := cell_of_row _ bx 4 _ _ _ HA10.out.blk
        by_cases hz : acc.length = 0
        · have hz1 : ¬ 0 < acc.length := by omega
          have HZ := Lib.hid hz
          clear hz
          have hsp := args_split ((argsM_first (en := en) (f := g) (d := d) (nd := nk) HH41.out HZ.out).symm.trans HL.out)
          have HSP := Lib.hid hsp
          clear hsp
          go_upto_region 21 with fail
          have hgbx : bx ≠ gp := by have := HA10.out.hbx; have := HA10.out.est.2.2.2; omega
          have hbl := HA10.out.lt
          have hcn : acc.length ≤ 1024 := Nat.le_trans HA10.out.cnt hnl
          have HNE : Hid ((Value.slice VA acc.length Vk).ownBlock ≠ some bx) := HA10.out.ne bx (Nat.le_refl _)
          have hc4 : w10.cell? ⟨bx, 4, none⟩ = some (.slice VA acc.length Vk) := cell_of_row _ bx 4 _ _ _ HA10.out.blk
          have hf4 : w10.frozen? ⟨bx, 4, none⟩ = false := frozen_of_row _ bx 4 _ _ HA10.out.blk
          have hwrap : IntKind.i64.wrap ((d : Int) + 1) = (d : Int) + 1 := IntWalk.i64_in _ (by omega)
          rcases HSP.out with ⟨e, hx, rfl⟩ | ⟨y, j2, nd2, hx, hrest⟩
          · obtain ⟨er, ep⟩ := e
            have HC : Hid (Calls Tryd.prog 27 #[.pointer (some ⟨gp, 0, none⟩), .int .i64 ((d : Int) + 1)] w10.drew (exprPost w10.drew gp tb (some ⟨tb, 0, none⟩) c ts en (.error (er, ep)))) := (HIH.out g (d + 1) j nk w10.drew _ (by omega) (by omega) (HA10.out.est.1.grow ((Below.refl _ _).drew)) hx)
            clear HSP hx
            have HERR : Hid (∀ w12, w10.drew.grownBy w12 (some gp) → exprPost w gp tb (some ⟨tb, 0, none⟩) c ts en r (.panicked [{ v := faultV er ep, recovered := false }]) w12) := fun w12 hg12 => by
              rw [HR.out]
              exact ⟨rfl, grown_tr HA10.out.est.2.1 (grown_tr (grown_of_below ((Below.refl _ _).drew) _) hg12)⟩
            go_region_dies
            all_goals (refine HC.out.mono ?_; rintro e w12 ⟨rfl, hg12⟩; exact ⟨rfl, HERR.out _ hg12⟩)
          · have HC : Hid (Calls Tryd.prog 27 #[.pointer (some ⟨gp, 0, none⟩), .int .i64 ((d : Int) + 1)] w10.drew (Fresh w10.drew gp tb (some ⟨tb, 0, none⟩) c ts en y j2 nd2 bx (.slice VA acc.length Vk))) :=
              (HIH.out g (d + 1) j nk w10.drew _ (by omega) (by omega) (HA10.out.est.1.grow ((Below.refl _ _).drew)) hx).mono (fun e w' h => fresh_of h (by simpa using hc4) (by simpa using hf4) (by simpa using hbl) hgbx)
            have HR2 := Lib.hid hrest
            have HUP : Hid (nk < nd2) := (nodes_up g).1 _ _ _ _ _ _ hx
            clear HSP hx hrest
            go_region_law (first
              | (refine step_append_lies _ (by rfl) _ _ _ (by rfl) (bx + 1) 26 i0 _ 5 80 Tryd.underlying24 HI.out HZ0.out HZ1.out HZ2.out rfl (by omega) (.slice VA acc.length Vk) acc.length xs (by rfl) ((((HA10.out.grow ((Below.refl _ _).drew)).via hg1 hp1 (Nat.le_of_lt HUP.out)).own).alloc _)
                     ⟨w12.heap.size, 0, none⟩ 1 1 [.int .i64 k, .string nmk, .int .i64 n, .slice la ll lc, .slice aa al ac] (by rfl) (by rfl) (World.news_of_block (cs := #[.int .i64 k, .string nmk, .int .i64 n, .slice la ll lc, .slice aa al ac]) (t := 26) (fr := (0, 0)) (heap_alloc_new w12 _)) (by simp [Value.oneCell'])
                     (by omega) (by unfold maxLen; omega) (by omega) (by simp; omega) (w12.heap.size + 1) (by simp) ?_; intro gg cap w13 hown1 hgrow hat hlt; have hc13 := (hgrow.cell_far ⟨bx, 4, none⟩ (by show bx < _; rw [World.size_alloc]; omega) (Ne.symm HNE.out)).trans (keep_alloc hsz12 hc12 hf12).1; have hf13 := (hgrow.frozen_far ⟨bx, 4, none⟩ (by show bx < _; rw [World.size_alloc]; omega) (Ne.symm HNE.out)).trans (keep_alloc hsz12 hc12 hf12).2)
              | (go_simp; refine HC.out.mono ?_; rintro e w12 ⟨k, nmk, n, la, ll, lc, aa, al, ac, rfl, hx1, hp1, hg1, hc12, hf12⟩; have hsz12 : bx < w12.heap.size := Nat.lt_of_lt_of_le hbl hg1.size))
            all_goals
              have HPUT := Lib.hid (ArgSt.put ((HA10.out.grow ((Below.refl _ _).drew)).via hg1 hp1 (Nat.le_of_lt HUP.out)) (Nat.lt_of_le_of_lt HA10.out.cnt HUP.out) htbw (B := w10.drew.heap.size) hbl (fun k hk => (HA10.out.own.lt k hk).2) hx1 ((Below.refl _ _).alloc (Nat.le_refl _) _) hown1 hgrow (hat.imp id (fun e => by rw [e, World.size_alloc]; exact Nat.le_refl _)))
              clear hown1 hgrow hat hx1 hp1 hg1 hc12 hf12 hc13 hf13 hwrap HC
              go_wp2_with fail
              go_roundg g
              case measure => omega
              case rel => exact ⟨_, _, _, _, _, Nat.le_of_succ_le hgf, HR2.out, HPUT.out⟩
        · have hz1 : 0 < acc.length := by omega
          have HZ := Lib.hid hz
          clear hz
          go_wp2_with fail
          cases h44 : isT ts j 44
          · refine (must_no 44 _ HA10.out.est.1 h44).mono ?_
            rintro e w11 ⟨rfl, hb⟩
            have HG11 := Lib.hid (grown_tr HA10.out.est.2.1 (grown_of_below hb _))
            clear hb
            go_wp2_with fail
            refine ⟨rfl, ?_⟩
            have hre := (argsM_bad (en := en) (f := g) (d := d) (nd := nk) HH41.out HZ.out h44).symm.trans HL.out
            obtain rfl := Option.some.inj hre
            rw [HR.out]
            exact ⟨rfl, HG11.out⟩
          · refine (must_yes 44 _ HA10.out.est.1 h44).mono ?_
            rintro e w11 ⟨rfl, hp, hg⟩
            have HA11 := Lib.hid (HA10.out.via hg hp (Nat.le_refl _))
            have HH44 := Lib.hid h44
            clear hp hg HA10 h44 hc4
            have hsp := args_split ((argsM_next (en := en) (f := g) (d := d) (nd := nk) HH41.out HZ.out HH44.out).symm.trans HL.out)
            have HSP := Lib.hid hsp
            clear hsp
            go_upto_region 21 with fail
            have hgbx : bx ≠ gp := by have := HA11.out.hbx; have := HA11.out.est.2.2.2; omega
            have hbl := HA11.out.lt
            have hcn : acc.length ≤ 1024 := Nat.le_trans HA11.out.cnt hnl
            have HNE : Hid ((Value.slice VA acc.length Vk).ownBlock ≠ some bx) := HA11.out.ne bx (Nat.le_refl _)
            have hc4 : w11.cell? ⟨bx, 4, none⟩ = some (.slice VA acc.length Vk) := cell_of_row _ bx 4 _ _ _ HA11.out.blk
            have hf4 : w11.frozen? ⟨bx, 4, none⟩ = false := frozen_of_row _ bx 4 _ _ HA11.out.blk
            have hwrap : IntKind.i64.wrap ((d : Int) + 1) = (d : Int) + 1 := IntWalk.i64_in _ (by omega)
            rcases HSP.out with ⟨e, hx, rfl⟩ | ⟨y, j2, nd2, hx, hrest⟩
            · obtain ⟨er, ep⟩ := e
              have HC : Hid (Calls Tryd.prog 27 #[.pointer (some ⟨gp, 0, none⟩), .int .i64 ((d : Int) + 1)] w11.drew (exprPost w11.drew gp tb (some ⟨tb, 0, none⟩) c ts en (.error (er, ep)))) := (HIH.out g (d + 1) (j + 1) nk w11.drew _ (by omega) (by omega) (HA11.out.est.1.grow ((Below.refl _ _).drew)) hx)
              clear HSP hx
              have HERR : Hid (∀ w12, w11.drew.grownBy w12 (some gp) → exprPost w gp tb (some ⟨tb, 0, none⟩) c ts en r (.panicked [{ v := faultV er ep, recovered := false }]) w12) := fun w12 hg12 => by
                rw [HR.out]
                exact ⟨rfl, grown_tr HA11.out.est.2.1 (grown_tr (grown_of_below ((Below.refl _ _).drew) _) hg12)⟩
              go_region_dies
              all_goals (refine HC.out.mono ?_; rintro e w12 ⟨rfl, hg12⟩; exact ⟨rfl, HERR.out _ hg12⟩)
            · have HC : Hid (Calls Tryd.prog 27 #[.pointer (some ⟨gp, 0, none⟩), .int .i64 ((d : Int) + 1)] w11.drew (Fresh w11.drew gp tb (some ⟨tb, 0, none⟩) c ts en y j2 nd2 bx (.slice VA acc.length Vk))) :=
                (HIH.out g (d + 1) (j + 1) nk w11.drew _ (by omega) (by omega) (HA11.out.est.1.grow ((Below.refl _ _).drew)) hx).mono (fun e w' h => fresh_of h (by simpa using hc4) (by simpa using hf4) (by simpa using hbl) hgbx)
              have HR2 := Lib.hid hrest
              have HUP : Hid (nk < nd2) := (nodes_up g).1 _ _ _ _ _ _ hx
              clear HSP hx hrest
              go_region_law (first
                | (refine step_append_lies _ (by rfl) _ _ _ (by rfl) (bx + 1) 26 i0 _ 5 80 Tryd.underlying24 HI.out HZ0.out HZ1.out HZ2.out rfl (by omega) (.slice VA acc.length Vk) acc.length xs (by rfl) ((((HA11.out.grow ((Below.refl _ _).drew)).via hg1 hp1 (Nat.le_of_lt HUP.out)).own).alloc _)
                       ⟨w12.heap.size, 0, none⟩ 1 1 [.int .i64 k, .string nmk, .int .i64 n, .slice la ll lc, .slice aa al ac] (by rfl) (by rfl) (World.news_of_block (cs := #[.int .i64 k, .string nmk, .int .i64 n, .slice la ll lc, .slice aa al ac]) (t := 26) (fr := (0, 0)) (heap_alloc_new w12 _)) (by simp [Value.oneCell'])
                       (by omega) (by unfold maxLen; omega) (by omega) (by simp; omega) (w12.heap.size + 1) (by simp) ?_; intro gg cap w13 hown1 hgrow hat hlt; have hc13 := (hgrow.cell_far ⟨bx, 4, none⟩ (by show bx < _; rw [World.size_alloc]; omega) (Ne.symm HNE.out)).trans (keep_alloc hsz12 hc12 hf12).1; have hf13 := (hgrow.frozen_far ⟨bx, 4, none⟩ (by show bx < _; rw [World.size_alloc]; omega) (Ne.symm HNE.out)).trans (keep_alloc hsz12 hc12 hf12).2)
                | (go_simp; refine HC.out.mono ?_; rintro e w12 ⟨k, nmk, n, la, ll, lc, aa, al, ac, rfl, hx1, hp1, hg1, hc12, hf12⟩; have hsz12 : bx < w12.heap.size := Nat.lt_of_lt_of_le hbl hg1.size))
              all_goals
                have HPUT := Lib.hid (ArgSt.put ((HA11.out.grow ((Below.refl _ _).drew)).via hg1 hp1 (Nat.le_of_lt HUP.out)) (Nat.lt_of_le_of_lt HA11.out.cnt HUP.out) htbw (B := w11.drew.heap.size) hbl (fun k hk => (HA11.out.own.lt k hk).2) hx1 ((Below.refl _ _).alloc (Nat.le_refl _) _) hown1 hgrow (hat.imp id (fun e => by rw [e, World.size_alloc]; exact Nat.le_refl _)))
                clear hown1 hgrow hat hx1 hp1 hg1 hc12 hf12 hc13 hf13 hwrap HC
                go_wp2_with fail
                go_roundg g
                case measure => omega
                case rel => exact ⟨_, _, _, _, _, Nat.le_of_succ_le hgf, HR2.out, HPUT.out⟩
      · have HH41 := Lib.hid h41
        clear h41
        go_wp2_with fail
        refine (is_yes 41 _ HA.out.est.1 HH41.out).mono ?_
        rintro e w10 ⟨rfl, hp, hg⟩
        have HA10 := Lib.hid (HA.out.via hg hp (Nat.le_refl _))
        clear hp hg HA
        obtain ⟨VA, Vk, rfl⟩ := HA10.out.shape
        have hr0 := (argsM_end (en := en) (f := g) (d := d) (nd := nk) (acc := acc) HH41.out).symm.trans HL.out
        obtain rfl := Option.some.inj hr0
        clear hr0
        go_wp2_with (first
          | (refine wpList_load_mid rfl 26 (.tmp 10) rfl bx 0 rfl [.int .i64 3, .string ⟨nm.toArray⟩, .int .i64 0, .slice none 0 0, .slice VA acc.length Vk] _ (range_of_row HA10.out.blk) Tryd.underlying26 rfl exprSize ?_)
          | (refine wpList_store_row rfl 26 (.tmp 4) (.tmp 99) rfl w.heap.size #[.int .i64 3, .string ⟨nm.toArray⟩, .int .i64 0, .slice none 0 0, .slice VA acc.length Vk] rfl rfl 26 _ HA10.out.est.2.2.1 exprSize rfl (by simp [Value.oneCell']) ?_))
        refine bodyPost_ret (results_cell_row (P := Tryd.prog) Tryd.results27 _ _ w.heap.size 26 #[.int .i64 3, .string ⟨nm.toArray⟩, .int .i64 0, .slice none 0 0, .slice VA acc.length Vk] (0, 0) _ rfl (setRow_heap _ _ _ _ _ _ HA10.out.est.2.2.1) Tryd.underlying26 rfl exprSize) rfl ?_
        rw [HR.out]
        exact HA10.out.est.done HTB.out (cs := [.int .i64 3, .string ⟨nm.toArray⟩, .int .i64 0, .slice none 0 0, .slice VA acc.length Vk]) HA10.out.expr
#print axioms expr_call
end Go.Proofs.YtbjagceopgofiaaDoor
