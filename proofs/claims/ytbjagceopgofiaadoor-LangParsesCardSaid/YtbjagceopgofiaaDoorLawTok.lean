/-
  LangTokens: the walk.
-/
import Derived.Test.YtbjagceopgofiaaDoorAlive
namespace Go.Proofs.YtbjagceopgofiaaDoor
open Go.RowKit

/-- The tokens in a slice, in every world that keeps it. -/
def ToksAt (w : World) (v : Value) (ts : List Tok) : Prop :=
  ∃ A c, v = .slice A ts.length c ∧ (0 < ts.length → ∃ g, A = some ⟨g, 0, none⟩ ∧ g < w.heap.size ∧ ∀ i t, ts[i]? = some t → w.rangeAt g (i * 4) (tokCells t))
theorem OwnToks.at_ {w : World} {base : Nat} {v : Value} {ts : List Tok} (ho : OwnToks w base v ts) : ToksAt w v ts := by
  have ho' : w.ownsRow base 40 4 v ts.length (toksCells ts) := ho
  rcases ho.2 with ⟨rfl, h0⟩ | ⟨g, cap, cur, rfl, hg, hr⟩
  · exact ⟨none, 0, by rw [h0], fun h => by omega⟩
  · refine ⟨_, cap, rfl, fun _ => ⟨g, rfl, (Array.getElem?_eq_some_iff.1 hr.1).1, fun i t ht j u hu => ?_⟩⟩
    have hi := (List.getElem?_eq_some_iff.1 ht).1
    have hj : j < 4 := (List.getElem?_eq_some_iff.1 hu).1
    rw [ho'.cellAt (i * 4 + j) (by omega), ← hu]
    exact toksCells_at ts i j t ht hj
theorem ToksAt.grow {w w' : World} {v : Value} {ts : List Tok} (h : ToksAt w v ts) (hb : Below w.heap.size w w') : ToksAt w' v ts := by
  obtain ⟨A, c, rfl, h⟩ := h
  refine ⟨A, c, rfl, fun hz => ?_⟩
  obtain ⟨g, rfl, hg, hr⟩ := h hz
  exact ⟨g, rfl, Nat.lt_of_lt_of_le hg hb.size, fun i t ht => rangeAt_kept (hr i t ht) hb hg⟩
theorem tokSz {t : Tok} : (Tryd.prog.info? 40).map (·.size) = some (tokCells t).length := by kernel_rfl
def SBel (a w : World) : Prop := Below a.heap.size a w
def RelTok (W : World) (n : Nat) (v : Value) (g : Nat) (wr : World) : Prop := ∃ i, i + g = n ∧ v = .int .i64 i ∧ Below W.heap.size W wr

set_option maxHeartbeats 4000000 in
set_option maxRecDepth 100000 in
theorem lawTokens_err (s : ByteArray) (w : World) (ht : Pows w) (er p : Nat) (hR : tokensM s.data.toList = .error (er, p)) :
    Calls Tryd.prog 11 #[.string s] w fun e w' => e = .returned (.bool true) ∧ Below w.heap.size w w' := by
  have HR := Lib.hid hR
  have HA := Lib.hid (alive_c w ht)
  clear hR ht
  go_enter Tryd.func11, Tryd.ntmps11
  go_wp2_with (go_at_call 12; refine HA.out.mono ?_)
  rintro e w1 ⟨rfl, hb1⟩
  have HB1 := Lib.hid hb1
  clear hb1
  go_wp2_with fail
  refine (tokens_c s w1).mono ?_
  intro x w2 hp
  rw [HR.out] at hp
  obtain ⟨rfl, hb2⟩ := hp
  have HB2 := Lib.hid (HB1.out.trans (hb2.mono HB1.out.size))
  clear hb2
  go_wp2_with fail
  refine (rtokens_c s w2).mono ?_
  intro x w3 hp
  rw [HR.out] at hp
  obtain ⟨rfl, hb3⟩ := hp
  have HB3 := Lib.hid (HB2.out.trans (hb3.mono HB2.out.size))
  clear hb3
  go_wp2_with fail
  go_loopg [41] 0 (fun g v wr => RelTok w3 0 v g wr)
  case atStart => exact ⟨0, by omega, rfl, Below.refl _ _⟩
  case round =>
    obtain ⟨i, hig, rfl, hb⟩ := hrel
    have HB := Lib.hid hb
    clear hb
    go_wp2_with fail
    go_ret
    exact ⟨rfl, HB3.out.trans (HB.out.mono HB3.out.size)⟩

set_option maxHeartbeats 4000000 in
set_option maxRecDepth 100000 in
theorem lawTokens_ok (s : ByteArray) (w : World) (ht : Pows w) (ts : List Tok) (hR : tokensM s.data.toList = .ok ts) :
    Calls Tryd.prog 11 #[.string s] w fun e w' => e = .returned (.bool true) ∧ Below w.heap.size w w' := by
  have HR := Lib.hid hR
  have HA := Lib.hid (alive_c w ht)
  obtain ⟨hl1, hl2⟩ := tokensM_len hR
  clear hR ht
  go_enter Tryd.func11, Tryd.ntmps11
  go_wp2_with (go_at_call 12; refine HA.out.mono ?_)
  rintro e w1 ⟨rfl, hb1⟩
  have HB1 := Lib.hid hb1
  clear hb1
  go_wp2_with fail
  refine (tokens_c s w1).mono ?_
  intro x w2 hp
  rw [HR.out] at hp
  obtain ⟨v, rfl, ho2, hb2⟩ := hp
  have HB2 := Lib.hid (HB1.out.trans (hb2.mono HB1.out.size))
  have HT2 := Lib.hid ho2.at_
  clear hb2 ho2
  go_wp2_with fail
  refine (rtokens_c s w2).mono ?_
  intro x w3 hp
  rw [HR.out] at hp
  obtain ⟨v', rfl, ho3, hb3⟩ := hp
  have HB3 := Lib.hid (HB2.out.trans (hb3.mono HB2.out.size))
  obtain ⟨A, c, rfl, ha⟩ := HT2.out.grow hb3
  obtain ⟨A', c', rfl, ha'⟩ := ho3.at_
  have HTA := Lib.hid ha
  have HTB := Lib.hid ha'
  clear hb3 ho3 ha ha' HT2
  go_wp2_with fail
  go_loopg [41] ts.length (fun g v wr => RelTok w3 ts.length v g wr)
  case atStart => exact ⟨0, by omega, rfl, Below.refl _ _⟩
  case round =>
    obtain ⟨i, hig, rfl, hb⟩ := hrel
    have HB := Lib.hid hb
    by_cases hi : i < ts.length
    · obtain ⟨g1, rfl, hg1, hr1⟩ := HTA.out (by omega)
      obtain ⟨g2, rfl, hg2, hr2⟩ := HTB.out (by omega)
      have q1 := rangeAt_kept (hr1 i _ (List.getElem?_eq_getElem hi)) hb hg1
      have q2 := rangeAt_kept (hr2 i _ (List.getElem?_eq_getElem hi)) hb hg2
      generalize ts[i] = t at *
      have hi0 : (0 : Int) ≤ (i : Int) := by omega
      have hi1 : (i : Int) < (ts.length : Int) := by omega
      have Q1 := Lib.hid q1
      have Q2 := Lib.hid q2
      have hw1 : g1 < wr.heap.size := Nat.lt_of_lt_of_le hg1 hb.size
      have hw2 : g2 < wr.heap.size := Nat.lt_of_lt_of_le hg2 hb.size
      clear hr1 hr2 q1 q2 HTA HTB hb
      go_upto_region 10 with fail
      refine wp_region_keep (SBel wr) (by kernel_rfl) (by kernel_rfl) ((Below.refl _ _).drew) ?_
      repeat (first
        | (refine keep_load_mid rfl 40 (.tmp 46) rfl g1 (i * 4) rfl (tokCells t) _ (fun w' hS => rangeAt_kept Q1.out hS hw1) Tryd.underlying40 rfl tokSz ?_
           go_simp)
        | (refine keep_load_mid rfl 40 (.tmp 50) rfl g2 (i * 4) rfl (tokCells t) _ (fun w' hS => rangeAt_kept Q2.out hS hw2) Tryd.underlying40 rfl tokSz ?_
           go_simp)
        | (apply keep_val rfl
           · intro W hS
             try unfold tokCells
             go_simp
             try rfl
           go_simp))
      refine wpKeep_nil ?_
      intro w5 hS5
      have HB5 := Lib.hid (HB.out.trans (Below.mono hS5 HB.out.size))
      clear hS5
      go_wp2_with fail
      go_roundg (ts.length - (i + 1))
      case measure => omega
      case rel => exact ⟨i + 1, by omega, by simp, HB5.out⟩
    · clear hb
      go_wp2_with fail
      go_ret
      exact ⟨rfl, HB3.out.trans (HB.out.mono HB3.out.size)⟩
theorem lawTokens_c (s : ByteArray) (w : World) (ht : Pows w) :
    Calls Tryd.prog 11 #[.string s] w fun e w' => e = .returned (.bool true) ∧ Below w.heap.size w w' := by
  cases hR : tokensM s.data.toList with
  | error e => exact lawTokens_err s w ht e.1 e.2 hR
  | ok ts => exact lawTokens_ok s w ht ts hR
#print axioms lawTokens_c
end Go.Proofs.YtbjagceopgofiaaDoor
