/-
  derive: copies of lists.
-/
import Derived.Test.YtcfejnnhcdlffaaGreatGrM
namespace Go.Proofs.YtcfejnnhcdlffaaGreat
open Go.RowKit Pln

/-- A slice that reads as integers, in a block from lo on. -/
def IntsUp (w : World) (lo : Nat) (A : Option Addr) (zs : List Int) : Prop :=
  0 < zs.length → ∃ b o, A = some ⟨b, o, none⟩ ∧ lo ≤ b ∧ b < w.heap.size ∧ ∀ j, j < zs.length → w.cell? ⟨b, o + j, none⟩ = some (.int .i64 (zs.getD j 0))
theorem IntsUp.ints {w : World} {lo : Nat} {A : Option Addr} {zs : List Int} (h : IntsUp w lo A zs) : IntsAt w w.heap.size A zs := fun hz => by
  obtain ⟨b, o, e, _, hlt, hc⟩ := h hz
  exact ⟨b, o, e, hlt, hc⟩
theorem IntsUp.of_blocks {w w' : World} {lo : Nat} {A : Option Addr} {zs : List Int} (h : IntsUp w lo A zs) (hs : w.heap.size ≤ w'.heap.size) (hb : ∀ k, lo ≤ k → k < w.heap.size → w'.heap[k]? = w.heap[k]?) : IntsUp w' lo A zs := fun hz => by
  obtain ⟨b, o, e, hlo, hlt, hc⟩ := h hz
  refine ⟨b, o, e, hlo, by omega, fun j hj => ?_⟩
  have : w'.cell? ⟨b, o + j, none⟩ = w.cell? ⟨b, o + j, none⟩ := by
    unfold World.cell?
    rw [hb b hlo hlt]
  exact this.trans (hc j hj)
theorem IntsUp.grow {w w' : World} {lo : Nat} {A : Option Addr} {zs : List Int} (h : IntsUp w lo A zs) (hb : Below w.heap.size w w') : IntsUp w' lo A zs := h.of_blocks hb.size fun k _ hk => hb.block k hk
theorem RowsUp.grow {w w' : World} {lo : Nat} {A : Option Addr} {zs : List (List Int)} (h : RowsUp w lo A zs) (hb : Below w.heap.size w w') : RowsUp w' lo A zs := h.of_blocks hb.size fun k _ hk => hb.block k hk

theorem ints_nil (w : World) : Calls Tryz.prog 24 #[.slice none 0 0] w fun e w' => e = .returned (.slice none 0 0) ∧ w = w' := by
  obtain ⟨i0, hi, hz0, hz1, hz2⟩ := info_parts infoInt
  have HI := Lib.hid hi
  have hap : ∀ W : World, (Builtin.append_ #[22, 22] 22 #[.slice none 0 0, .slice none 0 0]).run Tryz.prog W = .ok (.slice none 0 0) W :=
    fun W => run_append_zero W W.heap.size 22 22 3 i0 1 Tryz.underlying22 HI.out (.slice none 0 0) 0 [] (World.ownsRow_nil _ _ _ _) none 0
  clear hi hz0 hz1 hz2
  go_enter Tryz.func24, Tryz.ntmps24
  go_wp2_with fail
  go_ret
  exact ⟨rfl, rfl⟩
#print axioms ints_nil

set_option maxHeartbeats 1000000 in
set_option maxRecDepth 100000 in
theorem ints_pos (zs : List Int) (A : Option Addr) (c : Nat) (w : World) (hA : IntsAt w w.heap.size A zs) (h0 : 0 < zs.length) (hl : zs.length ≤ 1000000) :
    Calls Tryz.prog 24 #[.slice A zs.length c] w fun e w' => (∃ g c', e = .returned (.slice (some ⟨g, 0, none⟩) zs.length c') ∧ Row w' w.heap.size g c' zs) ∧ Below w.heap.size w w' := by
  obtain ⟨i0, hi, hz0, hz1, hz2⟩ := info_parts infoInt
  obtain ⟨b, o, rfl, hbl, hc⟩ := hA h0
  have HI := Lib.hid hi
  have HZ0 := Lib.hid hz0
  have HZ1 := Lib.hid hz1
  have HZ2 := Lib.hid hz2
  have HNEW : Hid (∀ (j : Nat) (u : Value), (zs.map (Value.int .i64))[j]? = some u → w.cell? ((⟨b, o, none⟩ : Addr).add j) = some u) := hA.news
  clear hi hz0 hz1 hz2 hA hc
  go_enter Tryz.func24, Tryz.ntmps24
  go_wp2_with (at_builtin; refine wpList_append_lies _ rfl _ (.tmp 3) 22 rfl w.heap.size 3 i0 _ 1 8 Tryz.underlying22 HI.out HZ0.out HZ1.out HZ2.out rfl (by decide) (.slice none 0 0) 0 [] rfl (World.ownsRow_nil _ _ _ _) ⟨b, o, none⟩ zs.length c (zs.map (Value.int .i64)) rfl ?c0 HNEW.out ?c2 h0 ?c3 ?c4 ?c5 _ rfl ?_)
  case c0 => simp
  case c2 => intro u hu; obtain ⟨z, _, rfl⟩ := List.mem_map.1 hu; rfl
  case c3 => unfold maxLen; omega
  case c4 => omega
  case c5 => simp
  intro g cap w1 hown hgr hat hlt
  have HR : Hid (Row w1 w.heap.size g cap zs) := by
    show w1.ownsRow _ _ _ _ _ _
    exact hown
  have HB : Hid (Below w.heap.size w w1) := (Below.refl _ _).grown hgr (by simp) (fun k hk => by simp [Value.ownBlock] at hk)
  clear hown hgr hat hlt
  go_wp2_with fail
  go_ret
  exact ⟨⟨g, cap, rfl, HR.out⟩, HB.out⟩
#print axioms ints_pos

section
variable {P : Program}
/-- 'append' of nothing, at the list of a plain region's operations. -/
theorem wpList_append_zero {ops : Array Oper} {rest : List Oper} {o : Oper} {a : Act} {w : World} {Q : Exit → Act → World → Prop} (hgd : o.guard = none) (s x : Operand) (t : TypeId)
    (ho : o.op = .call { callee := .builtin .append, args := #[s, x], argTypes := #[t, t] }) (base : Nat) (e : TypeId) (i : TypeInfo) (size : Nat) (ht : P.underlying t = some (.slice e)) (hi : P.info? e = some i)
    (v : Value) (n : Nat) (xs : List Value) (hs : a.eval s = v) (hown : w.ownsRow base e size v n xs) (A : Option Addr) (c : Nat) (hx : a.eval x = .slice A 0 c) (h : wpList P ops Q rest (a.put o.dst v) w) : wpList P ops Q (o :: rest) a w :=
  wpList_plain hgd fun _ hK => by
    unfold Oper.wp execOp
    simp only [ho, resolve, invoke, builtin, Sem.run_bind, Sem.run_pure, Result.andThen_ok, List.map_toArray, List.map_cons, List.map_nil, hs, hx, run_append_zero w base t o.type e i size ht hi v n xs hown A c]
    exact hK _ _ h
end
set_option maxHeartbeats 1000000 in
set_option maxRecDepth 100000 in
theorem ints_zero (A : Option Addr) (c : Nat) (w : World) : Calls Tryz.prog 24 #[.slice A 0 c] w fun e w' => e = .returned (.slice none 0 0) ∧ w = w' := by
  obtain ⟨i0, hi, hz0, hz1, hz2⟩ := info_parts infoInt
  have HI := Lib.hid hi
  clear hi hz0 hz1 hz2
  go_enter Tryz.func24, Tryz.ntmps24
  go_wp2_with (at_builtin; refine wpList_append_zero rfl _ (.tmp 3) 22 rfl w.heap.size 3 i0 1 Tryz.underlying22 HI.out (.slice none 0 0) 0 [] rfl (World.ownsRow_nil _ _ _ _) A c rfl ?_)
  go_ret
  exact ⟨rfl, rfl⟩
theorem ints_c (zs : List Int) (A : Option Addr) (c : Nat) (w : World) (hA : IntsAt w w.heap.size A zs) (hl : zs.length ≤ 1000000) :
    Calls Tryz.prog 24 #[.slice A zs.length c] w fun e w' => (∃ A' c', e = .returned (.slice A' zs.length c') ∧ IntsUp w' w.heap.size A' zs) ∧ Below w.heap.size w w' := by
  by_cases h0 : zs.length = 0
  · rw [h0]
    refine (ints_zero A c w).mono ?_
    rintro e w' ⟨rfl, rfl⟩
    exact ⟨⟨none, 0, rfl, fun h => by omega⟩, Below.refl _ _⟩
  · refine (ints_pos zs A c w hA (by omega) hl).mono ?_
    rintro e w' ⟨⟨g, c', rfl, hr⟩, hb⟩
    exact ⟨⟨_, c', rfl, fun _ => ⟨g, 0, rfl, hr.lt.1, hr.lt.2, fun j hj => by rw [Nat.zero_add]; exact hr.cell hj⟩⟩, hb⟩

/-- In the midst of the copy of a list of lists. -/
structure LGrid (w : World) (B : Nat) (v : Value) (rows : List (List Nat)) (bs : List (Nat × Nat)) (k : Nat) : Prop where
  len : bs.length = k
  le : k ≤ rows.length
  out : w.ownsRow B 22 1 v k ((List.range k).map (hdr rows bs))
  row : ∀ i, i < k → Row w B (bk bs i) (cp bs i) (nz (rows.getD i []))
  apart : ∀ i, i < k → v.ownBlock ≠ some (bk bs i)
theorem LGrid.step {w w1 w2 : World} {B : Nat} {v v' : Value} {rows : List (List Nat)} {bs : List (Nat × Nat)} {k g c : Nat} {o : Obj} (h : LGrid w B v rows bs k) (hk : k < rows.length) (hB : B ≤ w.heap.size) (hb : Below w.heap.size w w1) (hr : Row w1 w.heap.size g c (nz (rows.getD k [])))
    (hown : w2.ownsRow B 22 1 v' (k + 1) ((List.range k).map (hdr rows bs) ++ [.slice (some ⟨g, 0, none⟩) (rows.getD k []).length c])) (hg : (w1.alloc o).grownBy w2 v.ownBlock) (hat : v'.ownBlock = v.ownBlock ∨ v'.ownBlock = some (w1.alloc o).heap.size) :
    LGrid w2 B v' rows (bs ++ [(g, c)]) (k + 1) := by
  have hgl := hr.lt
  have hs1 := hb.size
  have hvl : ∀ b, v.ownBlock = some b → b < w.heap.size := fun b e => (h.out.lt b e).2
  have hbk : ∀ i, i < k → bk (bs ++ [(g, c)]) i = bk bs i ∧ cp (bs ++ [(g, c)]) i = cp bs i := fun i hi => by
    unfold bk cp
    rw [getD_snoc_lt (by rw [h.len]; exact hi)]
    exact ⟨rfl, rfl⟩
  have hbn : bk (bs ++ [(g, c)]) k = g ∧ cp (bs ++ [(g, c)]) k = c := by
    unfold bk cp
    have := getD_snoc_eq bs (g, c) (0, 0)
    rw [h.len] at this
    rw [this]
    exact ⟨rfl, rfl⟩
  refine ⟨by simp [h.len], hk, ?_, fun i hi => ?_, fun i hi => ?_⟩
  · rw [List.range_succ, List.map_append]
    have e1 : (List.range k).map (hdr rows (bs ++ [(g, c)])) = (List.range k).map (hdr rows bs) := List.map_congr_left fun i hi => by
      unfold hdr
      rw [(hbk i (List.mem_range.1 hi)).1, (hbk i (List.mem_range.1 hi)).2]
    rw [e1, List.map_cons, List.map_nil]
    unfold hdr at hown ⊢
    rw [hbn.1, hbn.2]
    exact hown
  · by_cases hik : i = k
    · subst hik
      rw [hbn.1, hbn.2]
      exact ((hr.base (B' := B) (by omega)).alloc o).grown hg (fun e => by have := hvl g e.symm; omega)
    · have hi' : i < k := by omega
      rw [(hbk i hi').1, (hbk i hi').2]
      have hri := h.row i hi'
      exact ((hri.below hb hri.lt.2).alloc o).grown hg (fun e => h.apart i hi' e.symm)
  · by_cases hik : i = k
    · subst hik
      rw [hbn.1]
      rcases hat with e | e
      · rw [e]; exact fun e' => by have := hvl g e'; omega
      · rw [e]; intro e'; injection e' with e'; simp at e'; omega
    · have hi' : i < k := by omega
      rw [(hbk i hi').1]
      rcases hat with e | e
      · rw [e]; exact h.apart i hi'
      · rw [e]
        have := (h.row i hi').lt.2
        intro e'; injection e' with e'; simp at e'; omega
theorem own_slice' {w : World} {base n : Nat} {e : TypeId} {v : Value} {xs : List Value} (h : w.ownsRow base e 1 v n xs) : ∃ VA ck, v = .slice VA n ck ∧ (0 < n → ∃ R, VA = some ⟨R, 0, none⟩) := by
  rcases h.2 with ⟨h1, h2⟩ | ⟨g, cap, cur, hv, _⟩
  · subst h2
    exact ⟨_, _, h1, fun h => by omega⟩
  · exact ⟨_, _, hv, fun _ => ⟨g, rfl⟩⟩
theorem LGrid.up {w : World} {B : Nat} {VA : Option Addr} {ck : Nat} {rows : List (List Nat)} {bs : List (Nat × Nat)} (h : LGrid w B (.slice VA rows.length ck) rows bs rows.length) : RowsUp w B VA (nzs rows) := by
  intro hz
  rw [nzs_len] at hz
  obtain ⟨VA', ck', e, hR⟩ := own_slice' h.out
  injection e with e1 e2 e3
  subst e1
  obtain ⟨R, rfl⟩ := hR hz
  have hlt := World.ownsRow.lt h.out R rfl
  refine ⟨R, 0, rfl, hlt.1, hlt.2, fun i hi => ?_⟩
  rw [nzs_len] at hi
  have hr := h.row i hi
  refine ⟨bk bs i, 0, cp bs i, ?_, hr.lt.1, hr.lt.2, fun j hj => ?_⟩
  · rw [Nat.zero_add, nzs_getD, nz_len, World.ownsRow.cellAt h.out i (by omega)]
    simp [hi, hdr]
  · rw [nzs_getD] at hj ⊢
    rw [Nat.zero_add]
    exact hr.cell hj
def RelLs (w : World) (rows : List (List Nat)) (v3 v8 : Value) (wr : World) : Prop :=
  ∃ (k : Nat) (bs : List (Nat × Nat)), v8 = .int .i64 k ∧ LGrid wr w.heap.size v3 rows bs k ∧ Below w.heap.size w wr

theorem lists_nil (w : World) : Calls Tryz.prog 25 #[.slice none 0 0] w fun e w' => e = .returned (.slice none 0 0) ∧ w = w' := by
  go_enter Tryz.func25, Tryz.ntmps25
  go_wp2_with fail
  go_loop [3, 8] (fun v3 v8 => v8 = .int .i64 0 ∧ v3 = .slice none 0 0) (fun _ _ => 0)
  case atStart => exact ⟨rfl, rfl⟩
  case round =>
    obtain ⟨rfl, rfl⟩ := hrel
    go_wp2_with fail
    go_ret
    exact ⟨rfl, rfl⟩
#print axioms lists_nil

set_option maxHeartbeats 1000000 in
set_option maxRecDepth 100000 in
theorem lists_c (rows : List (List Nat)) (A : Option Addr) (c : Nat) (w : World) (hA : RowsAt w w.heap.size A (nzs rows)) (hr : ∀ r ∈ rows, 0 < r.length ∧ r.length ≤ 1000000) (hl : rows.length ≤ 1000000) :
    Calls Tryz.prog 25 #[.slice A rows.length c] w fun e w' => (∃ A' c', e = .returned (.slice A' rows.length c') ∧ RowsUp w' w.heap.size A' (nzs rows)) ∧ Below w.heap.size w w' := by
  obtain ⟨i0, hi, hz0, hz1, hz2⟩ := info_parts infoInts
  have HI := Lib.hid hi
  have HZ0 := Lib.hid hz0
  have HZ1 := Lib.hid hz1
  have HZ2 := Lib.hid hz2
  have HA := Lib.hid hA
  have HRL : Hid (∀ k, k < rows.length → 0 < (rows.getD k []).length ∧ (rows.getD k []).length ≤ 1000000) := fun k hk => by
    have : rows.getD k [] = rows[k] := by simp [List.getD, hk]
    rw [this]
    exact hr _ (List.getElem_mem hk)
  clear hi hz0 hz1 hz2 hA hr
  go_enter Tryz.func25, Tryz.ntmps25
  go_wp2_with fail
  go_loopw [3, 8] (fun v3 v8 wr => RelLs w rows v3 v8 wr) (fun _ v8 _ => rows.length - (intOf v8).toNat)
  case atStart => exact ⟨0, [], rfl, ⟨rfl, Nat.zero_le _, World.ownsRow_nil _ _ _ _, fun i hi => by omega, fun i hi => by omega⟩, Below.refl _ _⟩
  case round =>
    obtain ⟨k, bs, rfl, hlg, hb⟩ := hrel
    obtain ⟨VA, ck, rfl, _⟩ := own_slice' hlg.out
    have HLG := Lib.hid hlg
    have HB := Lib.hid hb
    have hkl := hlg.le
    clear hlg hb
    by_cases hlt : k < rows.length
    · obtain ⟨b, o, Ai, ci, rfl, hbl, hc, hi⟩ := (HA.out.keep HB.out).at_ (i := k) (by rw [nzs_len]; exact hlt)
      rw [nzs_getD] at hc hi
      rw [nz_len] at hc
      have hrl := HRL.out k hlt
      have HCI := Lib.hid (ints_pos (nz (rows.getD k [])) Ai ci wr (hi.more HB.out.size) (by rw [nz_len]; exact hrl.1) (by rw [nz_len]; exact hrl.2))
      rw [nz_len] at HCI
      clear hi hrl
      have k0 : (0 : Int) ≤ (k : Int) := by omega
      have k1 : (k : Int) < (rows.length : Int) := by omega
      generalize hnn : (rows.getD k []).length = n at *
      have HNN := Lib.hid hnn
      clear hnn
      go_wp2_with fail
      (with_reducible refine HCI.out.mono ?_)
      rintro e w1 ⟨⟨g, c', rfl, hrow⟩, hb1⟩
      have HROW := Lib.hid hrow
      have HB1 := Lib.hid hb1
      have hws := HB.out.size
      have hws1 := hb1.size
      clear hrow hb1 hc
      have HOW : Hid ((w1.alloc (.cells #[.slice (some ⟨g, 0, none⟩) n c'] 22)).ownsRow w.heap.size 22 1 (.slice VA k ck) k ((List.range k).map (hdr rows bs))) := by
        have hko := HLG.out.out.kept (row := none) ⟨HB1.out.os, HB1.out.tape, HB1.out.output, HB1.out.size, fun j hj _ => HB1.out.block j hj⟩ (by cases (Value.slice VA k ck).ownBlock <;> simp)
        exact World.ownsRow.alloc hko _
      go_wp2_with (at_builtin; refine wpList_append_own_at _ rfl (.tmp 12) (.tmp 15) 25 rfl w.heap.size 22 i0 _ 1 24 Tryz.underlying25 HI.out HZ0.out HZ1.out HZ2.out rfl (by decide) (.slice VA k ck) k ((List.range k).map (hdr rows bs)) rfl HOW.out ⟨w1.heap.size, 0, none⟩ 1 1 [.slice (some ⟨g, 0, none⟩) n c'] rfl rfl ?c1 ?c2 ?c3 ?c4 ?c5 ?_)
      case c1 => exact World.news_of_block (cs := #[.slice (some ⟨g, 0, none⟩) n c']) (t := 22) (fr := (0, 0)) (heap_alloc_new w1 _)
      case c2 => intro u hu; simp at hu; subst hu; rfl
      case c3 => unfold maxLen; omega
      case c4 => omega
      case c5 => simp; omega
      intro v' w3 hown' hgw3 _ hat
      have HX : Hid (LGrid w3 w.heap.size v' rows (bs ++ [(g, c')]) (k + 1)) := HLG.out.step hlt hws HB1.out HROW.out (by rw [HNN.out]; exact hown') hgw3 (by simpa using hat)
      have HB3 : Hid (Below w.heap.size w w3) := ((HB.out.trans (HB1.out.mono hws)).alloc (by omega) _).grown hgw3 (by simp; omega) (fun j hj => (HLG.out.out.lt j hj).1)
      clear hown' hgw3 hat
      go_wp2_with fail
      go_roundw
      case rel => exact ⟨k + 1, _, by go_num, HX.out, HB3.out⟩
      case measure => simp [intOf]; omega
    · obtain rfl : k = rows.length := by omega
      have HU := Lib.hid HLG.out.up
      go_wp2_with fail
      go_ret
      exact ⟨⟨VA, ck, rfl, HU.out⟩, HB.out⟩
#print axioms lists_c
end Go.Proofs.YtcfejnnhcdlffaaGreat
