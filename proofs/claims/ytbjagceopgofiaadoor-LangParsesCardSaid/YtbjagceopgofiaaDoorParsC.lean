/-
  The parser's methods must and list.
-/
import Derived.Test.YtbjagceopgofiaaDoorParsB
namespace Go.Proofs.YtbjagceopgofiaaDoor
open Go.RowKit

theorem grown_of_below {w w' : World} (hb : Below w.heap.size w w') (row : Option Nat) : w.grownBy w' row := ⟨hb.os, hb.tape, hb.output, hb.size, fun k hk _ => hb.block k hk⟩
theorem grown_tr {a b c : World} {row : Option Nat} (h : a.grownBy b row) (k : b.grownBy c row) : a.grownBy c row :=
  ⟨k.os.trans h.os, k.tape.trans h.tape, k.output.trans h.output, Nat.le_trans h.size k.size, fun i hi hne => (k.block i (Nat.lt_of_lt_of_le hi h.size) hne).trans (h.block i hi hne)⟩

set_option maxHeartbeats 1000000 in
theorem must_yes {gp tb : Nat} {A : Option Addr} {c : Nat} {ts : List Tok} {en i nd : Nat} (ch : UInt8) (w : World) (h : PSt w gp tb A c ts en i nd) (hy : isT ts i ch = true) :
    Calls Tryd.prog 56 #[.pointer (some ⟨gp, 0, none⟩), .string ⟨#[ch]⟩] w fun e w' => e = .returned (.tuple #[]) ∧ PSt w' gp tb A c ts en (i + 1) nd ∧ w.grownBy w' (some gp) := by
  have H := Lib.hid h
  have HY := Lib.hid hy
  clear h hy
  go_enter Tryd.func56, Tryd.ntmps56
  go_wp2_with fail
  refine (is_yes ch w H.out HY.out).mono ?_
  rintro e w1 ⟨rfl, h1, h2⟩
  have H1 := Lib.hid h1
  have H2 := Lib.hid h2
  clear h1 h2
  go_wp2_with fail
  go_end0
  exact ⟨rfl, H1.out, H2.out⟩
set_option maxHeartbeats 1000000 in
theorem must_no {gp tb : Nat} {A : Option Addr} {c : Nat} {ts : List Tok} {en i nd : Nat} (ch : UInt8) (w : World) (h : PSt w gp tb A c ts en i nd) (hy : isT ts i ch = false) :
    Calls Tryd.prog 56 #[.pointer (some ⟨gp, 0, none⟩), .string ⟨#[ch]⟩] w fun e w' => e = .panicked [{ v := faultV 14 (atT ts en i), recovered := false }] ∧ Below w.heap.size w w' := by
  have H := Lib.hid h
  have HY := Lib.hid hy
  clear h hy
  go_enter Tryd.func56, Tryd.ntmps56
  go_wp2_with fail
  refine (is_no ch w H.out HY.out).mono ?_
  rintro e w1 ⟨rfl, hb⟩
  have HB := Lib.hid hb
  clear hb
  go_wp2_with fail
  refine (at_c w1 (H.out.grow HB.out)).mono ?_
  rintro e w2 ⟨rfl, hb⟩
  have HB2 := Lib.hid hb
  clear hb
  go_wp2_with fail
  refine (fail_c _ _ _).mono ?_
  rintro e w3 ⟨rfl, rfl⟩
  go_wp2_with fail
  exact ⟨rfl, rfl, HB.out.trans (HB2.out.mono HB.out.size)⟩

/-- A slice of the call's own that holds the integers. -/
def OwnInts (w : World) (base : Nat) (v : Value) (zs : List Int) : Prop := w.ownsRow base 3 1 v zs.length (zs.map (Value.int .i64))
theorem intInfo : (Tryd.prog.info? 3).map (fun i => (i.zero, i.size, i.bytes)) = some (some (.int .i64 0), 1, 8) := by kernel_rfl
theorem OwnInts.len {w : World} {base : Nat} {v : Value} {zs : List Int} (h : OwnInts w base v zs) : ∃ A k, v = .slice A zs.length k := by
  rcases h.2 with ⟨hv, h0⟩ | ⟨g, cap, cur, hv, _⟩
  · exact ⟨none, 0, by rw [hv, h0]⟩
  · exact ⟨_, _, hv⟩
def listPost (w : World) (gp tb : Nat) (A : Option Addr) (c : Nat) (ts : List Tok) (en nd : Nat) (r : Except (Nat × Nat) (List Int × Nat)) (x : Ending) (w' : World) : Prop :=
  match r with
  | .ok (l, j) => ∃ v, x = .returned v ∧ OwnInts w' w.heap.size v l ∧ PSt w' gp tb A c ts en j nd ∧ w.grownBy w' (some gp)
  | .error (er, p) => x = .panicked [{ v := faultV er p, recovered := false }] ∧ w.grownBy w' (some gp)
/-- The list's model with its first test: the empty list. -/
def listTop (ts : List Tok) (en f i : Nat) : Option (Except (Nat × Nat) (List Int × Nat)) := if isT ts i 93 then some (.ok ([], i + 1)) else listM ts en f i []
def RelList (w : World) (gp tb : Nat) (A : Option Addr) (c : Nat) (ts : List Tok) (en nd : Nat) (r : Except (Nat × Nat) (List Int × Nat)) (f0 : Nat) (v : Value) (f : Nat) (wr : World) : Prop :=
  ∃ (i : Nat) (acc : List Int), f ≤ f0 ∧ listM ts en f i acc = some r ∧ OwnInts wr w.heap.size v acc ∧ PSt wr gp tb A c ts en i nd ∧ w.grownBy wr (some gp) ∧ acc.length ≤ 4096 ∧ acc.length ≤ i
#print axioms must_no
end Go.Proofs.YtbjagceopgofiaaDoor
