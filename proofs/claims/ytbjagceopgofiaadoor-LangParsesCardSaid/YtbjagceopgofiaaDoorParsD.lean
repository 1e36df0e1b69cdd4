/-
  The parser's method list.
-/
import Derived.Test.YtbjagceopgofiaaDoorParsC
import Derived.Deep.LoopGhost
import Derived.Deep.RegionHeld3
namespace Go.Proofs.YtbjagceopgofiaaDoor
open Go.RowKit

theorem listM_notnum {ts : List Tok} {en f i : Nat} {acc : List Int} (h : kindT ts i ≠ 2) : listM ts en (f + 1) i acc = some (.error (14, atT ts en i)) := by
  unfold listM; rw [if_pos h]
theorem listM_big {ts : List Tok} {en f i : Nat} {acc : List Int} (h : kindT ts i = 2) (h2 : acc.length = 4096) : listM ts en (f + 1) i acc = some (.error (8, atT ts en i)) := by
  unfold listM; rw [if_neg (by omega), if_pos h2]
theorem listM_last {ts : List Tok} {en f i : Nat} {acc : List Int} (h : kindT ts i = 2) (h2 : acc.length ≠ 4096) (h3 : isT ts (i + 1) 93 = true) : listM ts en (f + 1) i acc = some (.ok (acc ++ [nT ts i], i + 2)) := by
  unfold listM; rw [if_neg (by omega), if_neg h2, if_pos h3]
theorem listM_comma {ts : List Tok} {en f i : Nat} {acc : List Int} (h : kindT ts i = 2) (h2 : acc.length ≠ 4096) (h3 : isT ts (i + 1) 93 = false) (h4 : isT ts (i + 1) 44 = true) : listM ts en (f + 1) i acc = listM ts en f (i + 2) (acc ++ [nT ts i]) := by
  conv => lhs; unfold listM
  rw [if_neg (by omega), if_neg h2, if_neg (by simp [h3]), if_pos h4]
theorem listM_bad {ts : List Tok} {en f i : Nat} {acc : List Int} (h : kindT ts i = 2) (h2 : acc.length ≠ 4096) (h3 : isT ts (i + 1) 93 = false) (h4 : isT ts (i + 1) 44 = false) : listM ts en (f + 1) i acc = some (.error (14, atT ts en (i + 1))) := by
  unfold listM; rw [if_neg (by omega), if_neg h2, if_neg (by simp [h3]), if_neg (by simp [h4])]

theorem PSt.stay {w w' : World} {gp tb : Nat} {A : Option Addr} {c : Nat} {ts : List Tok} {en i nd : Nat} (h : PSt w gp tb A c ts en i nd) (h1 : w'.heap[gp]? = w.heap[gp]?) (h2 : w'.heap[tb]? = w.heap[tb]?) : PSt w' gp tb A c ts en i nd :=
  ⟨h1.trans h.blk, h.toks.keep (fun o => World.cell?_of_block (a := ⟨tb, o, none⟩) h2), h.ne, h.lts, h.li, h.len, h.lnd⟩
theorem grown_below {w w2 w3 : World} {row : Option Nat} (h : w.grownBy w2 row) (hb : Below w.heap.size w2 w3) : w.grownBy w3 row :=
  ⟨hb.os.trans h.os, hb.tape.trans h.tape, hb.output.trans h.output, Nat.le_trans h.size hb.size, fun k hk hne => (hb.block k hk).trans (h.block k hk hne)⟩
theorem own_grow {w w' : World} {base : Nat} {e : TypeId} {size : Nat} {v : Value} {n : Nat} {xs : List Value} (h : w.ownsRow base e size v n xs) (hb : Below w.heap.size w w') : w'.ownsRow base e size v n xs :=
  h.kept (grown_of_below hb none) (by cases hv : v.ownBlock <;> simp)
def CutApp (w : World) (gp tb : Nat) (A : Option Addr) (c : Nat) (ts : List Tok) (en i nd : Nat) (acc : List Int) (v : Value) (wx : World) : Prop :=
  OwnInts wx w.heap.size v acc ∧ PSt wx gp tb A c ts en i nd ∧ w.grownBy wx (some gp)

set_option maxHeartbeats 8000000 in
set_option maxRecDepth 100000 in
theorem list_c {gp tb : Nat} {A : Option Addr} {c : Nat} {ts : List Tok} {en i nd f : Nat} (w : World) (h : PSt w gp tb A c ts en i nd) (r : Except (Nat × Nat) (List Int × Nat)) (hr : listTop ts en f i = some r) :
    Calls Tryd.prog 55 #[.pointer (some ⟨gp, 0, none⟩)] w (listPost w gp tb A c ts en nd r) := by
  have H := Lib.hid h
  have hgp := h.lt
  clear h
  cases hb0 : isT ts i 93
  · have HR : Hid (listM ts en f i [] = some r) := by show _ = _; rw [← hr]; unfold listTop; rw [if_neg (by simp [hb0])]
    have HB0 := Lib.hid hb0
    clear hr hb0
    obtain ⟨i0, hi, hz0, hz1, hz2⟩ := info_parts intInfo
    have HI := Lib.hid hi
    have HZ0 := Lib.hid hz0
    have HZ1 := Lib.hid hz1
    have HZ2 := Lib.hid hz2
    clear hi hz0 hz1 hz2
    go_enter Tryd.func55, Tryd.ntmps55
    go_wp2_with fail
    refine (is_no 93 w H.out HB0.out).mono ?_
    rintro e w1 ⟨rfl, hb⟩
    have HB := Lib.hid hb
    clear hb
    go_wp2_with fail
    go_loopg [3] f (fun g v wr => RelList w gp tb A c ts en nd r f v g wr)
    case atStart => exact ⟨i, [], by omega, HR.out, World.ownsRow_nil _ _ _ _, H.out.grow HB.out, grown_of_below HB.out _, by simp, by simp⟩
    case round =>
      obtain ⟨j, acc, hgf, hlm, hown, hp, hg, ha1, ha2⟩ := hrel
      have HL := Lib.hid hlm
      have HO := Lib.hid hown
      have HP := Lib.hid hp
      have HG := Lib.hid hg
      have hj := hp.li
      have hlts := hp.lts
      clear hlm hown hp hg HB HB0 HR
      have htbw : j < ts.length → tb < w.heap.size := fun hj => H.out.toks.lt hj
      obtain ⟨g, rfl⟩ : ∃ g, gk = g + 1 := by
        cases gk with
        | zero => exact absurd HL.out (by simp [listM])
        | succ g => exact ⟨g, rfl⟩
      by_cases hk : kindT ts j = 2
      · have hkk : (((kindT ts j : Nat) : Int) != 2) = false := by simp; omega
        have hjl : j < ts.length := kindT_lt (by omega)
        have HK := Lib.hid hk
        clear hk
        by_cases h4 : acc.length = 4096
        · have h4b : ((acc.length : Int) == 4096) = true := by simp; omega
          obtain ⟨VA, Vk, rfl⟩ := HO.out.len
          have H4 := Lib.hid h4
          clear h4
          go_wp2_with fail
          refine (kind_c _ HP.out).mono ?_
          rintro e w2 ⟨rfl, hb⟩
          have HP2 := Lib.hid (HP.out.grow hb)
          have HG2 := Lib.hid (grown_tr HG.out (grown_of_below hb (some gp)))
          clear hb
          go_wp2_with fail
          refine (at_c _ HP2.out).mono ?_
          rintro e w3 ⟨rfl, hb⟩
          have HG3 := Lib.hid (grown_tr HG2.out (grown_of_below hb (some gp)))
          clear hb
          go_wp2_with fail
          refine (fail_c _ _ _).mono ?_
          rintro e w4 ⟨rfl, rfl⟩
          go_wp2_with fail
          refine ⟨rfl, ?_⟩
          have hre := (listM_big (f := g) (en := en) HK.out H4.out).symm.trans HL.out
          obtain rfl := Option.some.inj hre
          exact ⟨rfl, HG3.out⟩
        · have h4b : ((acc.length : Int) == 4096) = false := by simp; omega
          obtain ⟨VA, Vk, rfl⟩ := HO.out.len
          go_wp2_with fail
          refine (kind_c _ HP.out).mono ?_
          rintro e w2 ⟨rfl, hb⟩
          have HP2 := Lib.hid (HP.out.grow hb)
          have HO2 := Lib.hid (World.ownsRow.kept HO.out (grown_of_below hb none) (by cases hv : (Value.slice VA acc.length Vk).ownBlock <;> simp))
          have HG2 := Lib.hid (grown_tr HG.out (grown_of_below hb (some gp)))
          clear hb
          go_upto_region 8 with fail
          have q0 : w2.cell? ⟨gp, 0, none⟩ = some (.slice A ts.length c) := HP2.out.cell 0
          have q1 : w2.cell? ⟨gp, 1, none⟩ = some (.int .i64 j) := HP2.out.cell 1
          obtain ⟨rfl, hrg⟩ := HP2.out.toks j ts[j] (List.getElem?_eq_getElem hjl)
          have q2 : w2.cell? ⟨tb, j * 4 + 2, none⟩ = some (.int .i64 ts[j].n) := hrg 2 _ rfl
          have HN : Hid (nT ts j = (ts[j].n : Int)) := by show _ = _; unfold nT; rw [List.getElem?_eq_getElem hjl]
          have hgp2 : gp < w2.heap.size := HP2.out.lt
          have htb2 : tb < w2.heap.size := HP2.out.toks.lt hjl
          have i0' : (0 : Int) ≤ (j : Int) := by omega
          have i1' : (j : Int) < (ts.length : Int) := by omega
          have hwb : w.heap.size ≤ w2.heap.size := HG2.out.size
          have htb := htbw hjl
          have HNE2 : Hid ((Value.slice VA acc.length Vk).ownBlock ≠ some tb) := fun he => by have := (HO2.out.lt tb he).1; omega
          have HNE1 : Hid ((Value.slice VA acc.length Vk).ownBlock ≠ some gp) := fun he => by have := (HO2.out.lt gp he).1; omega
          clear hrg
          generalize ts[j].n = nj at *
          go_cut [3] (fun v wx => CutApp w gp tb (some ⟨tb, 0, none⟩) c ts en j nd (acc ++ [nT ts j]) v wx)
          case first =>
            go_region_held3 (fun w' => w'.cell? ⟨gp, 0, none⟩ = some (.slice (some ⟨tb, 0, none⟩) ts.length c) ∧ w'.cell? ⟨gp, 1, none⟩ = some (.int .i64 j) ∧ w'.cell? ⟨tb, j * 4 + 2, none⟩ = some (.int .i64 nj))
              (first
                | go_keep
                | (go_split_ands
                   refine ⟨?_, ?_, ?_⟩
                   · (rw [hgrow.cell_far _ (by simp; omega) (Ne.symm HNE1.out)]; assumption)
                   · (rw [hgrow.cell_far _ (by simp; omega) (Ne.symm HNE1.out)]; assumption)
                   · (rw [hgrow.cell_far _ (by simp; omega) (Ne.symm HNE2.out)]; assumption)))
              ((refine step_append_lies _ (by rfl) _ _ _ (by rfl) w.heap.size 3 i0 _ 1 8 Tryd.underlying23 HI.out HZ0.out HZ1.out HZ2.out rfl (by omega) (.slice VA acc.length Vk) acc.length (acc.map (Value.int .i64)) (by rfl) ((HO2.out.alloc _).drew)
                  ⟨w2.heap.size, 0, none⟩ 1 1 [.int .i64 nj] (by rfl) (by rfl) (World.news_of_block (cs := #[.int .i64 nj]) (t := 3) (fr := (0, 0)) (heap_alloc_new w2 _)) (by simp [Value.oneCell'])
                  (by omega) (by unfold maxLen; omega) (by omega) (by simp; omega) (w2.heap.size + 1) (by simp) ?_; intro gg cap w3 hown1 hgrow hat hlt))
            have hbl : Below w.heap.size w2 w3 := ((Below.refl _ _).alloc hwb _).drew.grown hgrow (by simp; omega) (fun k hk => (HO2.out.lt k hk).1)
            have HX : Hid (CutApp w gp tb (some ⟨tb, 0, none⟩) c ts en j nd (acc ++ [nT ts j]) (.slice (some ⟨gg, 0, none⟩) (acc.length + 1) cap) w3) := by
              refine ⟨?_, HP2.out.stay (hbl.block gp hgp) (hbl.block tb htb), grown_below HG2.out hbl⟩
              show w3.ownsRow _ _ _ _ _ _
              rw [HN.out, List.length_append, List.map_append]
              exact hown1
            clear hown1 hgrow hat hbl
            go_wp2_with fail
            go_meet
            exact HX.out
          case rest =>
            obtain ⟨ho3, hp3, hg3⟩ := hcut
            have HO3 := Lib.hid ho3
            have HP3 := Lib.hid hp3
            have HG3 := Lib.hid hg3
            have e1 : wc.cell? ⟨gp, 1, none⟩ = some (.int .i64 j) := hp3.cell 1
            have f1 : wc.frozen? ⟨gp, 1, none⟩ = false := hp3.frozen 1
            clear ho3 hp3 hg3 HO2 HP2 HG2 q0 q1 q2 HNE1 HNE2
            go_wp2_with fail
            obtain ⟨hp4, hg4⟩ := HP3.out.step (k := 1) (Below.refl _ _) (by omega)
            have HP4 := Lib.hid hp4
            have HG4 := Lib.hid (grown_tr HG3.out hg4)
            have HO4 := Lib.hid (World.ownsRow.kept HO3.out hg4 (.inr (fun he => by have := (HO3.out.lt gp he).1; omega)))
            clear hp4 hg4
            cases h93 : isT ts (j + 1) 93
            · refine (is_no 93 _ HP4.out h93).mono ?_
              rintro e w5 ⟨rfl, hb⟩
              have HP5 := Lib.hid (HP4.out.grow hb)
              have HG5 := Lib.hid (grown_tr HG4.out (grown_of_below hb _))
              have HO5 := Lib.hid (own_grow HO4.out hb)
              clear hb
              go_wp2_with fail
              cases h44 : isT ts (j + 1) 44
              · refine (must_no 44 _ HP5.out h44).mono ?_
                rintro e w6 ⟨rfl, hb⟩
                have HG6 := Lib.hid (grown_tr HG5.out (grown_of_below hb _))
                clear hb
                go_wp2_with fail
                refine ⟨rfl, ?_⟩
                have hre := (listM_bad (f := g) (en := en) HK.out h4 h93 h44).symm.trans HL.out
                obtain rfl := Option.some.inj hre
                exact ⟨rfl, HG6.out⟩
              · refine (must_yes 44 _ HP5.out h44).mono ?_
                rintro e w6 ⟨rfl, hp6, hg6⟩
                have HP6 := Lib.hid hp6
                have HG6 := Lib.hid (grown_tr HG5.out hg6)
                have HO6 := Lib.hid (World.ownsRow.kept HO5.out hg6 (.inr (fun he => by have := (HO5.out.lt gp he).1; omega)))
                clear hp6 hg6
                go_wp2_with fail
                go_roundg g
                case measure => omega
                case rel => exact ⟨j + 2, acc ++ [nT ts j], by omega, by rw [← HL.out, listM_comma HK.out h4 h93 h44], HO6.out, HP6.out, HG6.out, by simp; omega, by simp; omega⟩
            · refine (is_yes 93 _ HP4.out h93).mono ?_
              rintro e w5 ⟨rfl, hp5, hg5⟩
              have HP5 := Lib.hid hp5
              have HG5 := Lib.hid (grown_tr HG4.out hg5)
              have HO5 := Lib.hid (World.ownsRow.kept HO4.out hg5 (.inr (fun he => by have := (HO4.out.lt gp he).1; omega)))
              clear hp5 hg5
              go_wp2_with fail
              go_ret
              have hre := (listM_last (f := g) (en := en) HK.out h4 h93).symm.trans HL.out
              obtain rfl := Option.some.inj hre
              exact ⟨_, rfl, HO5.out, HP5.out, HG5.out⟩
      · have hkk : (((kindT ts j : Nat) : Int) != 2) = true := by simp; omega
        have HK := Lib.hid hk
        clear hk
        go_wp2_with fail
        refine (kind_c _ HP.out).mono ?_
        rintro e w2 ⟨rfl, hb⟩
        have HP2 := Lib.hid (HP.out.grow hb)
        have HG2 := Lib.hid (grown_tr HG.out (grown_of_below hb (some gp)))
        clear hb
        go_wp2_with fail
        refine (at_c _ HP2.out).mono ?_
        rintro e w3 ⟨rfl, hb⟩
        have HG3 := Lib.hid (grown_tr HG2.out (grown_of_below hb (some gp)))
        clear hb
        go_wp2_with fail
        refine (fail_c _ _ _).mono ?_
        rintro e w4 ⟨rfl, rfl⟩
        go_wp2_with fail
        refine ⟨rfl, ?_⟩
        have hre := (listM_notnum (f := g) (en := en) (acc := acc) HK.out).symm.trans HL.out
        obtain rfl := Option.some.inj hre
        exact ⟨rfl, HG3.out⟩
  · have HR : Hid (r = .ok ([], i + 1)) := by
      show _ = _
      unfold listTop at hr
      rw [if_pos hb0] at hr
      exact (Option.some.inj hr).symm
    have HB0 := Lib.hid hb0
    clear hr hb0
    go_enter Tryd.func55, Tryd.ntmps55
    go_wp2_with fail
    refine (is_yes 93 w H.out HB0.out).mono ?_
    rintro e w1 ⟨rfl, hp, hg⟩
    have HP := Lib.hid hp
    have HG := Lib.hid hg
    clear hp hg
    go_wp2_with fail
    go_ret
    rw [HR.out]
    exact ⟨_, rfl, World.ownsRow_nil _ _ _ _, HP.out, HG.out⟩
#print axioms list_c
end Go.Proofs.YtbjagceopgofiaaDoor
