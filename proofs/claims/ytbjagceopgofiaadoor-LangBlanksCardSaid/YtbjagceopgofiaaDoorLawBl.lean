/-
  The walk of LangBlanks.
-/
import Derived.Test.YtbjagceopgofiaaDoorRefE
import Derived.Test.YtbjagceopgofiaaDoorLawOff
import Derived.Test.YtbjagceopgofiaaDoorPlainD
import Derived.BigQuiet
import Derived.Deep.QuietTactic
import Derived.Laws.BitsLemmas
namespace Go.Proofs.YtbjagceopgofiaaDoor
open Go.RowKit

theorem i64_and3 (n : Int) : bits .and .i64 n 3 = n % 4 := by
  have h3 : (BitVec.ofInt 64 3).toNat = 2 ^ 2 - 1 := by decide
  have key : (BitVec.ofInt 64 n &&& BitVec.ofInt 64 3).toNat = (n % ((2 ^ 64 : Nat) : Int)).toNat % 2 ^ 2 := by
    rw [BitVec.toNat_and, BitVec.toNat_ofInt, h3, Nat.and_two_pow_sub_one_eq_mod]
  show IntKind.i64.wrap ((BitVec.ofInt 64 n &&& BitVec.ofInt 64 3).toNat : Nat) = n % 4
  rw [key, IntKind.wrap_i64]
  omega
def gapOf (r : Int) : List UInt8 := if r = 0 then [32] else if r = 1 then [9] else if r = 2 then [32, 10, 32] else [32, 32]
theorem gapOf_ok (r : Int) : gapB (gapOf r) := by
  unfold gapOf gapB
  split
  · exact .inl rfl
  · split
    · exact .inr (.inl rfl)
    · split
      · exact .inr (.inr (.inl rfl))
      · exact .inr (.inr (.inr rfl))
def RelBl (W : World) (ts : List Tok) (v8 v40 : Value) (g : Nat) (wr : World) : Prop :=
  ∃ (i : Nat) (o : List UInt8), i + g = ts.length ∧ v40 = .int .i64 i ∧ v8 = .string ⟨o.toArray⟩ ∧ BlankOut (ts.take i) o ∧ Below W.heap.size W wr
set_option maxHeartbeats 4000000 in
set_option maxRecDepth 100000 in
theorem lawBl_ok (s : ByteArray) (A : Option Addr) (zs : List Int) (zk : Nat) (w : World) (ht : Pows w) (hz : IntsF w (· < w.heap.size) A zs) (ts : List Tok) (hR : tokensM s.data.toList = .ok ts) (hs : s.size ≤ 3000) (hzl : zs.length ≤ 3000) :
    Calls Tryd.prog 8 #[.string s, .slice A zs.length zk] w fun e w' => e = .returned (.bool true) ∧ Below w.heap.size w w' := by
  have HR := Lib.hid hR
  have HA := Lib.hid (alive_c w ht)
  have HZ := Lib.hid hz
  obtain ⟨hl1, hl2⟩ := tokensM_len hR
  rw [len_data] at hl1 hl2
  have hsum := tokensM_sum hR
  rw [len_data] at hsum
  clear hR ht hz
  go_enter Tryd.func8, Tryd.ntmps8
  go_wp2_with (go_at_call 12; refine HA.out.mono ?_)
  rintro e w1 ⟨rfl, hb1⟩
  have HB1 := Lib.hid hb1
  clear hb1
  go_wp2_with fail
  refine (rtokens_c s w1).mono ?_
  intro x w3 hp
  rw [HR.out] at hp
  obtain ⟨v', rfl, ho3, hb3⟩ := hp
  have HB3 := Lib.hid (HB1.out.trans (hb3.mono HB1.out.size))
  obtain ⟨A', c', rfl, ha'⟩ := ho3.at_
  have HTB := Lib.hid ha'
  have HZ3 := Lib.hid (HZ.out.mono (fun b hF _ => ⟨hF, HB3.out.block b hF⟩))
  clear hb3 ho3 ha'
  go_wp2_with fail
  go_loopg [8, 40] ts.length (fun g v8 v40 wr => RelBl w3 ts v8 v40 g wr)
  case atStart => exact ⟨0, [], by omega, rfl, rfl, .nil, Below.refl _ _⟩
  case round =>
    obtain ⟨i, o, hig, rfl, rfl, hbo, hb⟩ := hrel
    have HBO := Lib.hid hbo
    have HB := Lib.hid hb
    have hol := blank_len hbo
    have hst : sumT (ts.take i) ≤ sumT ts := by
      have h1 : sumT ts = sumT (ts.take i) + sumT (ts.drop i) := by
        unfold sumT
        rw [← List.sum_append, ← List.map_append, List.take_append_drop]
      omega
    have hti : (ts.take i).length ≤ ts.length := by simp; omega
    have hol2 : o.length ≤ 20000 := by omega
    clear hbo hol hst hti
    by_cases hi : i < ts.length
    · obtain ⟨g1, rfl, hg1, hr1⟩ := HTB.out (by omega)
      have q1 := rangeAt_kept (hr1 i _ (List.getElem?_eq_getElem hi)) hb hg1
      have HTK : Hid (ts.take (i + 1) = ts.take i ++ [ts[i]]) := take_snoc (List.getElem?_eq_getElem hi)
      have htx : ts[i].text.length ≤ 3000 := by
        have h1 : sumT (ts.take (i + 1)) = sumT (ts.take i) + ts[i].text.length := by rw [HTK.out, sumT_snoc]
        have h2 : sumT ts = sumT (ts.take (i + 1)) + sumT (ts.drop (i + 1)) := by
          unfold sumT
          rw [← List.sum_append, ← List.map_append, List.take_append_drop]
        omega
      generalize ts[i] = t at *
      have Q1 : Hid (wr.rangeAt g1 (i * 4) [.int .i64 t.kind, .string ⟨t.text.toArray⟩, .int .i64 t.n, .int .i64 t.pos]) := q1
      have hi0 : (0 : Int) ≤ (i : Int) := by omega
      have hi1 : (i : Int) < (ts.length : Int) := by omega
      have hba := hb.alloc hb.size (.cells #[.int .i64 t.kind, .string ⟨t.text.toArray⟩, .int .i64 t.n, .int .i64 t.pos] 40)
      have HBA := Lib.hid hba
      have HZR := Lib.hid (HZ3.out.mono (fun b hF _ => ⟨hF, (HB.out.mono (Nat.le_refl _)).block b (Nat.lt_of_lt_of_le hF HB3.out.size)⟩))
      clear hr1 q1 HTB hb hba
      by_cases hgz : i < zs.length
      · obtain ⟨zb, zo, rfl, hzb, hzc⟩ := HZR.out (by omega)
        have hz1 := hzc i hgz
        have hz2 : (wr.alloc (.cells #[.int .i64 t.kind, .string ⟨t.text.toArray⟩, .int .i64 t.n, .int .i64 t.pos] 40)).cell? ⟨zb, zo + i, none⟩ = some (.int .i64 (zs.getD i 0)) := (World.cell?_alloc_past _ _ _ (World.block_lt_of_cell? _ _ hz1)).trans hz1
        have hgi : (i : Int) < (zs.length : Int) := by omega
        clear hzc hz1
        generalize zs.getD i 0 = z at *
        go_upto_region 13 with (first
          | (refine wpList_load_mid rfl 40 (.tmp 43) rfl g1 (i * 4) rfl [.int .i64 t.kind, .string ⟨t.text.toArray⟩, .int .i64 t.n, .int .i64 t.pos] _ Q1.out Tryd.underlying40 rfl tokSize ?_)
          | (refine wpList_store_new rfl 40 (.tmp 10) (.tmp 44) rfl wr _ #[.int .i64 t.kind, .string ⟨t.text.toArray⟩, .int .i64 t.n, .int .i64 t.pos] rfl rfl tokSize rfl (by simp [Value.oneCell']) ?_))
        go_simp
        clear hz2 HZR HZ3 HZ
        have HC1 : Hid ((wr.alloc (.cells #[.int .i64 t.kind, .string ⟨t.text.toArray⟩, .int .i64 t.n, .int .i64 t.pos] 40)).cell? ⟨wr.heap.size, 1, none⟩ = some (.string ⟨t.text.toArray⟩)) := World.cell?_alloc_new _ _ _ 1
        have hand := i64_and3 z
        have h4 : z % 4 = 0 ∨ z % 4 = 1 ∨ z % 4 = 2 ∨ z % 4 = 3 := by omega
        rcases h4 with h4 | h4 | h4 | h4
        · rw [h4] at hand
          clear h4
          refine wp_region_keep (SBw (wr.alloc (.cells #[.int .i64 t.kind, .string ⟨t.text.toArray⟩, .int .i64 t.n, .int .i64 t.pos] 40))) (by kernel_rfl) (by kernel_rfl) ((Below.refl _ _).drew) ?_
          iterate 4
            apply keep_val rfl
            · intro W' hS
              go_simp
              rfl
            go_simp
          refine keep_val (v := .string ⟨#[32]⟩) rfl ?_ ?_
          · intro W' hS
            go_simp
            try rfl
          go_simp
          repeat (apply keep_val rfl
                  · intro W' hS
                    have e1 := SBw.cell_ hS HC1.out
                    go_simp
                    first
                      | rfl
                      | (rw [if_neg (by omega)] <;> rfl)
                  go_simp)
          refine wpKeep_nil ?_
          intro w5 hS5
          have HB5 := Lib.hid (HBA.out.trans (Below.mono hS5 HBA.out.size))
          clear hS5
          go_wp2_with fail
          go_roundg (ts.length - (i + 1))
          case measure => omega
          case rel =>
            refine ⟨i + 1, o ++ ([32] ++ t.text), by omega, by simp, str_eq ?_, ?_, HB5.out⟩
            · rw [← ba_append, ← ba_append]
            · rw [HTK.out]
              exact .snoc HBO.out (by unfold gapB; simp)
        · rw [h4] at hand
          clear h4
          refine wp_region_keep (SBw (wr.alloc (.cells #[.int .i64 t.kind, .string ⟨t.text.toArray⟩, .int .i64 t.n, .int .i64 t.pos] 40))) (by kernel_rfl) (by kernel_rfl) ((Below.refl _ _).drew) ?_
          iterate 4
            apply keep_val rfl
            · intro W' hS
              go_simp
              rfl
            go_simp
          refine keep_val (v := .string ⟨#[9]⟩) rfl ?_ ?_
          · intro W' hS
            go_simp
            try rfl
          go_simp
          repeat (apply keep_val rfl
                  · intro W' hS
                    have e1 := SBw.cell_ hS HC1.out
                    go_simp
                    first
                      | rfl
                      | (rw [if_neg (by omega)] <;> rfl)
                  go_simp)
          refine wpKeep_nil ?_
          intro w5 hS5
          have HB5 := Lib.hid (HBA.out.trans (Below.mono hS5 HBA.out.size))
          clear hS5
          go_wp2_with fail
          go_roundg (ts.length - (i + 1))
          case measure => omega
          case rel =>
            refine ⟨i + 1, o ++ ([9] ++ t.text), by omega, by simp, str_eq ?_, ?_, HB5.out⟩
            · rw [← ba_append, ← ba_append]
            · rw [HTK.out]
              exact .snoc HBO.out (by unfold gapB; simp)
        · rw [h4] at hand
          clear h4
          refine wp_region_keep (SBw (wr.alloc (.cells #[.int .i64 t.kind, .string ⟨t.text.toArray⟩, .int .i64 t.n, .int .i64 t.pos] 40))) (by kernel_rfl) (by kernel_rfl) ((Below.refl _ _).drew) ?_
          iterate 4
            apply keep_val rfl
            · intro W' hS
              go_simp
              rfl
            go_simp
          refine keep_val (v := .string ⟨#[32, 10, 32]⟩) rfl ?_ ?_
          · intro W' hS
            go_simp
            try rfl
          go_simp
          repeat (apply keep_val rfl
                  · intro W' hS
                    have e1 := SBw.cell_ hS HC1.out
                    go_simp
                    first
                      | rfl
                      | (rw [if_neg (by omega)] <;> rfl)
                  go_simp)
          refine wpKeep_nil ?_
          intro w5 hS5
          have HB5 := Lib.hid (HBA.out.trans (Below.mono hS5 HBA.out.size))
          clear hS5
          go_wp2_with fail
          go_roundg (ts.length - (i + 1))
          case measure => omega
          case rel =>
            refine ⟨i + 1, o ++ ([32, 10, 32] ++ t.text), by omega, by simp, str_eq ?_, ?_, HB5.out⟩
            · rw [← ba_append, ← ba_append]
            · rw [HTK.out]
              exact .snoc HBO.out (by unfold gapB; simp)
        · rw [h4] at hand
          clear h4
          refine wp_region_keep (SBw (wr.alloc (.cells #[.int .i64 t.kind, .string ⟨t.text.toArray⟩, .int .i64 t.n, .int .i64 t.pos] 40))) (by kernel_rfl) (by kernel_rfl) ((Below.refl _ _).drew) ?_
          iterate 4
            apply keep_val rfl
            · intro W' hS
              go_simp
              rfl
            go_simp
          refine keep_val (v := .string ⟨#[32, 32]⟩) rfl ?_ ?_
          · intro W' hS
            go_simp
            try rfl
          go_simp
          repeat (apply keep_val rfl
                  · intro W' hS
                    have e1 := SBw.cell_ hS HC1.out
                    go_simp
                    first
                      | rfl
                      | (rw [if_neg (by omega)] <;> rfl)
                  go_simp)
          refine wpKeep_nil ?_
          intro w5 hS5
          have HB5 := Lib.hid (HBA.out.trans (Below.mono hS5 HBA.out.size))
          clear hS5
          go_wp2_with fail
          go_roundg (ts.length - (i + 1))
          case measure => omega
          case rel =>
            refine ⟨i + 1, o ++ ([32, 32] ++ t.text), by omega, by simp, str_eq ?_, ?_, HB5.out⟩
            · rw [← ba_append, ← ba_append]
            · rw [HTK.out]
              exact .snoc HBO.out (by unfold gapB; simp)
      · have hgi : ¬ (i : Int) < (zs.length : Int) := by omega
        obtain ⟨z, hz0⟩ : ∃ z : Int, z = 0 := ⟨0, rfl⟩
        go_upto_region 13 with (first
          | (refine wpList_load_mid rfl 40 (.tmp 43) rfl g1 (i * 4) rfl [.int .i64 t.kind, .string ⟨t.text.toArray⟩, .int .i64 t.n, .int .i64 t.pos] _ Q1.out Tryd.underlying40 rfl tokSize ?_)
          | (refine wpList_store_new rfl 40 (.tmp 10) (.tmp 44) rfl wr _ #[.int .i64 t.kind, .string ⟨t.text.toArray⟩, .int .i64 t.n, .int .i64 t.pos] rfl rfl tokSize rfl (by simp [Value.oneCell']) ?_))
        go_simp
        clear HZR HZ3 HZ
        have HC1 : Hid ((wr.alloc (.cells #[.int .i64 t.kind, .string ⟨t.text.toArray⟩, .int .i64 t.n, .int .i64 t.pos] 40)).cell? ⟨wr.heap.size, 1, none⟩ = some (.string ⟨t.text.toArray⟩)) := World.cell?_alloc_new _ _ _ 1
        have hand : bits .and .i64 0 3 = 0 := i64_and3 0
        refine wp_region_keep (SBw (wr.alloc (.cells #[.int .i64 t.kind, .string ⟨t.text.toArray⟩, .int .i64 t.n, .int .i64 t.pos] 40))) (by kernel_rfl) (by kernel_rfl) ((Below.refl _ _).drew) ?_
        iterate 4
          apply keep_val rfl
          · intro W' hS
            go_simp
            rfl
          go_simp
        refine keep_val (v := .string ⟨#[32]⟩) rfl ?_ ?_
        · intro W' hS
          go_simp
          try rfl
        go_simp
        repeat (apply keep_val rfl
                · intro W' hS
                  have e1 := SBw.cell_ hS HC1.out
                  go_simp
                  first
                    | rfl
                    | (rw [if_neg (by omega)] <;> rfl)
                go_simp)
        refine wpKeep_nil ?_
        intro w5 hS5
        have HB5 := Lib.hid (HBA.out.trans (Below.mono hS5 HBA.out.size))
        clear hS5
        go_wp2_with fail
        go_roundg (ts.length - (i + 1))
        case measure => omega
        case rel =>
          refine ⟨i + 1, o ++ ([32] ++ t.text), by omega, by simp, str_eq ?_, ?_, HB5.out⟩
          · rw [← ba_append, ← ba_append]
          · rw [HTK.out]
            exact .snoc HBO.out (by unfold gapB; simp)
    · have HBW := Lib.hid (HB3.out.trans (HB.out.mono HB3.out.size))
      have HBO2 : Hid (BlankOut ts o) := by show BlankOut ts o; have := HBO.out; rwa [List.take_of_length_le (by omega)] at this
      have HPC : Hid (code (parseM (o ++ [10])) = code (parseM s.data.toList)) := blank_parse HR.out (by rw [len_data]; exact hs) HBO2.out
      clear hb HBO HBO2 HTB HZ3 HZ HB HB3 HA HB1
      go_wp2_with fail
      cases hp1 : parseM s.data.toList with
      | error e =>
        obtain ⟨er, p1⟩ := e
        have HP1 := Lib.hid hp1
        obtain ⟨p2, hp2⟩ : ∃ p2, parseM (o ++ [10]) = .error (er, p2) := by
          have h := HPC.out
          rw [hp1] at h
          cases hq : parseM (o ++ [10]) with
          | error e2 =>
            rw [hq] at h
            unfold code at h
            injection h with h
            obtain ⟨a2, b2⟩ := e2
            have h' : a2 = er := h
            subst h'
            exact ⟨b2, rfl⟩
          | ok y => rw [hq] at h; unfold code at h; cases h
        have HP2 := Lib.hid hp2
        clear hp1 hp2 HPC
        refine (parse_c s wr).mono ?_
        intro u w6 hp
        rw [HP1.out] at hp
        obtain ⟨rfl, hb6⟩ := hp
        have hb7 : Below w6.heap.size w6 (w6.alloc (.cells zeroE 26)) := (Below.refl _ _).alloc (Nat.le_refl _) _
        have hr7 : (w6.alloc (.cells zeroE 26)).heap[w6.heap.size]? = some (.cells #[.int .i64 0, .string ⟨#[]⟩, .int .i64 0, .slice none 0 0, .slice none 0 0] 26 (0, 0)) := heap_alloc_new _ _
        have HB7 := Lib.hid ((HBW.out.trans (hb6.mono HBW.out.size)).trans (hb7.mono (Nat.le_trans HBW.out.size hb6.size)))
        have HR7 := Lib.hid hr7
        clear hb6 hb7 hr7 HBW
        go_wp2_with (refine wpList_store_new rfl 26 (.tmp 12) (.tmp 66) rfl w6 _ zeroE rfl rfl exprSize rfl (by simp [zeroE, Value.oneCell']) ?_)
        rw [ba_append o [10]]
        generalize w6.alloc (.cells zeroE 26) = w7 at *
        have hx7 : w6.heap.size < w7.heap.size := (Array.getElem?_eq_some_iff.1 HR7.out).1
        generalize w6.heap.size = xb at *
        refine (parse_c _ w7).mono ?_
        intro u w8 hp
        change parsePost w7 (parseM (o ++ [10])) u w8 at hp
        rw [HP2.out] at hp
        obtain ⟨rfl, hb8⟩ := hp
        have hb9 : Below w8.heap.size w8 (w8.alloc (.cells zeroE 26)) := (Below.refl _ _).alloc (Nat.le_refl _) _
        have hr9 : (w8.alloc (.cells zeroE 26)).heap[w8.heap.size]? = some (.cells #[.int .i64 0, .string ⟨#[]⟩, .int .i64 0, .slice none 0 0, .slice none 0 0] 26 (0, 0)) := heap_alloc_new _ _
        have hb79 := hb8.trans (hb9.mono hb8.size)
        have HB9 := Lib.hid (HB7.out.trans (hb79.mono HB7.out.size))
        obtain ⟨z0, z1, z2, z3, z4⟩ := cells5 ((hb79.block _ hx7).trans HR7.out)
        obtain ⟨y0, y1, y2, y3, y4⟩ := cells5 hr9
        clear hb8 hb9 hr9 hb79 HR7 HB7
        go_wp2_with (refine wpList_store_new rfl 26 (.tmp 15) (.tmp 73) rfl w8 _ zeroE rfl rfl exprSize rfl (by simp [zeroE, Value.oneCell']) ?_)
        generalize w8.alloc (.cells zeroE 26) = w9 at *
        refine (same_c (.mk 0 [] 0 [] []) _ _ (fun _ => True) (fun _ => True) w9 (zero_expr _ _) (zero_expr _ _) zero_size zero_ent).mono ?_
        rintro e wa ⟨rfl, hba⟩
        have HBA := Lib.hid (HB9.out.trans (hba.mono HB9.out.size))
        clear hba z0 z1 z2 z3 z4 y0 y1 y2 y3 y4
        go_wp2_with fail
        go_ret
        exact ⟨rfl, HBA.out⟩
      | ok x =>
        have HP1 := Lib.hid hp1
        have hp2 : parseM (o ++ [10]) = .ok x := by
          have h := HPC.out
          rw [hp1] at h
          cases hq : parseM (o ++ [10]) with
          | error e2 => rw [hq] at h; unfold code at h; cases h
          | ok y => rw [hq] at h; unfold code at h; injection h with h; rw [h]
        have HP2 := Lib.hid hp2
        obtain ⟨hf, hsh, hd, hsz⟩ := parse_props hp1
        have he2 := ent_short x hsh
        clear hp1 hp2 HPC
        refine (parse_c s wr).mono ?_
        intro u w6 hp
        rw [HP1.out] at hp
        obtain ⟨cs6, rfl, hx6, hb6⟩ := hp
        obtain ⟨k6, nm6, n6, la6, ll6, lc6, aa6, al6, ac6, rfl⟩ := hx6.shape
        have hb7 : Below w6.heap.size w6 (w6.alloc (.cells #[.int .i64 k6, .string nm6, .int .i64 n6, .slice la6 ll6 lc6, .slice aa6 al6 ac6] 26)) := (Below.refl _ _).alloc (Nat.le_refl _) _
        have hr7 : (w6.alloc (.cells #[.int .i64 k6, .string nm6, .int .i64 n6, .slice la6 ll6 lc6, .slice aa6 al6 ac6] 26)).heap[w6.heap.size]? = some (.cells #[.int .i64 k6, .string nm6, .int .i64 n6, .slice la6 ll6 lc6, .slice aa6 al6 ac6] 26 (0, 0)) := heap_alloc_new _ _
        have HB7 := Lib.hid ((HBW.out.trans (hb6.mono HBW.out.size)).trans (hb7.mono (Nat.le_trans HBW.out.size hb6.size)))
        have HR7 := Lib.hid hr7
        have HX7 := Lib.hid (hx6.all.grow hb7)
        clear hb6 hb7 hr7 HBW hx6
        go_wp2_with (refine wpList_store_new rfl 26 (.tmp 12) (.tmp 66) rfl w6 _ #[.int .i64 k6, .string nm6, .int .i64 n6, .slice la6 ll6 lc6, .slice aa6 al6 ac6] rfl rfl exprSize rfl (by simp [Value.oneCell']) ?_)
        rw [ba_append o [10]]
        generalize w6.alloc (.cells #[.int .i64 k6, .string nm6, .int .i64 n6, .slice la6 ll6 lc6, .slice aa6 al6 ac6] 26) = w7 at *
        have hx7 : w6.heap.size < w7.heap.size := (Array.getElem?_eq_some_iff.1 HR7.out).1
        generalize w6.heap.size = xb at *
        refine (parse_c _ w7).mono ?_
        intro u w8 hp
        change parsePost w7 (parseM (o ++ [10])) u w8 at hp
        rw [HP2.out] at hp
        obtain ⟨cs8, rfl, hx8, hb8⟩ := hp
        obtain ⟨k8, nm8, n8, la8, ll8, lc8, aa8, al8, ac8, rfl⟩ := hx8.shape
        have hb9 : Below w8.heap.size w8 (w8.alloc (.cells #[.int .i64 k8, .string nm8, .int .i64 n8, .slice la8 ll8 lc8, .slice aa8 al8 ac8] 26)) := (Below.refl _ _).alloc (Nat.le_refl _) _
        have hr9 : (w8.alloc (.cells #[.int .i64 k8, .string nm8, .int .i64 n8, .slice la8 ll8 lc8, .slice aa8 al8 ac8] 26)).heap[w8.heap.size]? = some (.cells #[.int .i64 k8, .string nm8, .int .i64 n8, .slice la8 ll8 lc8, .slice aa8 al8 ac8] 26 (0, 0)) := heap_alloc_new _ _
        have hb79 := hb8.trans (hb9.mono hb8.size)
        have HB9 := Lib.hid (HB7.out.trans (hb79.mono HB7.out.size))
        have HX9 := Lib.hid (HX7.out.grow hb79)
        have HY9 := Lib.hid (hx8.grow hb9)
        obtain ⟨z0, z1, z2, z3, z4⟩ := cells5 ((hb79.block _ hx7).trans HR7.out)
        obtain ⟨y0, y1, y2, y3, y4⟩ := cells5 hr9
        clear hb8 hb9 hr9 hb79 HR7 HB7 hx8 HX7
        go_wp2_with (refine wpList_store_new rfl 26 (.tmp 15) (.tmp 73) rfl w8 _ #[.int .i64 k8, .string nm8, .int .i64 n8, .slice la8 ll8 lc8, .slice aa8 al8 ac8] rfl rfl exprSize rfl (by simp [Value.oneCell']) ?_)
        generalize w8.alloc (.cells #[.int .i64 k8, .string nm8, .int .i64 n8, .slice la8 ll8 lc8, .slice aa8 al8 ac8] 26) = w9 at *
        refine (same_c x _ _ _ _ w9 HX9.out HY9.out (by omega) (by omega)).mono ?_
        rintro e wa ⟨rfl, hba⟩
        have HBA := Lib.hid (HB9.out.trans (hba.mono HB9.out.size))
        clear hba z0 z1 z2 z3 z4 y0 y1 y2 y3 y4
        go_wp2_with fail
        go_ret
        exact ⟨rfl, HBA.out⟩

set_option maxHeartbeats 4000000 in
set_option maxRecDepth 100000 in
theorem lawBl_big (s : ByteArray) (A : Option Addr) (zs : List Int) (zk : Nat) (w : World) (ht : Pows w) (h : 3000 < s.size ∨ 3000 < zs.length) :
    Calls Tryd.prog 8 #[.string s, .slice A zs.length zk] w fun e w' => e = .returned (.bool true) ∧ Below w.heap.size w w' := by
  have HA := Lib.hid (alive_c w ht)
  clear ht
  go_enter Tryd.func8, Tryd.ntmps8
  go_wp2_with (go_at_call 12; refine HA.out.mono ?_)
  rintro e w1 ⟨rfl, hb1⟩
  have HB1 := Lib.hid hb1
  clear hb1
  go_wp2_with fail
  refine (rtokens_c s w1).mono ?_
  intro x w3 hp
  cases hR : tokensM s.data.toList with
  | error e =>
    obtain ⟨er, p⟩ := e
    rw [hR] at hp
    obtain ⟨rfl, hb3⟩ := hp
    have hne : ¬ (er : Int) = 0 := by have := (tokensM_err hR).1; omega
    have HB3 := Lib.hid (HB1.out.trans (hb3.mono HB1.out.size))
    clear hb3 hR
    go_wp2_with fail
    go_ret
    exact ⟨rfl, HB3.out⟩
  | ok ts =>
    rw [hR] at hp
    obtain ⟨v', rfl, ho3, hb3⟩ := hp
    have HB3 := Lib.hid (HB1.out.trans (hb3.mono HB1.out.size))
    clear hb3 hR ho3
    by_cases h1 : 3000 < s.size
    · go_wp2_with fail
      go_ret
      exact ⟨rfl, HB3.out⟩
    · have h2 : 3000 < zs.length := by omega
      go_wp2_with fail
      go_ret
      exact ⟨rfl, HB3.out⟩
theorem lawBl_err (s : ByteArray) (A : Option Addr) (zs : List Int) (zk : Nat) (w : World) (ht : Pows w) (er p : Nat) (hR : tokensM s.data.toList = .error (er, p)) :
    Calls Tryd.prog 8 #[.string s, .slice A zs.length zk] w fun e w' => e = .returned (.bool true) ∧ Below w.heap.size w w' := by
  have HA := Lib.hid (alive_c w ht)
  have HR := Lib.hid hR
  have hne : ¬ (er : Int) = 0 := by have := (tokensM_err hR).1; omega
  clear ht hR
  go_enter Tryd.func8, Tryd.ntmps8
  go_wp2_with (go_at_call 12; refine HA.out.mono ?_)
  rintro e w1 ⟨rfl, hb1⟩
  have HB1 := Lib.hid hb1
  clear hb1
  go_wp2_with fail
  refine (rtokens_c s w1).mono ?_
  intro x w3 hp
  rw [HR.out] at hp
  obtain ⟨rfl, hb3⟩ := hp
  have HB3 := Lib.hid (HB1.out.trans (hb3.mono HB1.out.size))
  clear hb3
  go_wp2_with fail
  go_ret
  exact ⟨rfl, HB3.out⟩
theorem lawBl_c (s : ByteArray) (A : Option Addr) (zs : List Int) (zk : Nat) (w : World) (ht : Pows w) (hz : IntsF w (· < w.heap.size) A zs) :
    Calls Tryd.prog 8 #[.string s, .slice A zs.length zk] w fun e w' => e = .returned (.bool true) ∧ Below w.heap.size w w' := by
  cases hR : tokensM s.data.toList with
  | error e => exact lawBl_err s A zs zk w ht e.1 e.2 hR
  | ok ts =>
    by_cases h1 : 3000 < s.size
    · exact lawBl_big s A zs zk w ht (.inl h1)
    · by_cases h2 : 3000 < zs.length
      · exact lawBl_big s A zs zk w ht (.inr h2)
      · exact lawBl_ok s A zs zk w ht hz ts hR (by omega) (by omega)
#print axioms lawBl_c
end Go.Proofs.YtbjagceopgofiaaDoor
