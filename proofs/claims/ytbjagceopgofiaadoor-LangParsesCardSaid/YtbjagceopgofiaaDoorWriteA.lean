/-
  The text of an expression; what a builder holds while it is written; the builder's writers in these words.
-/
import Derived.Test.YtbjagceopgofiaaDoorForm
import Derived.Test.YtbjagceopgofiaaDoorStable
import Derived.Test.YtbjagceopgofiaaDoorGrow
import Derived.Lib.FrozenHead2
namespace Go.Proofs.YtbjagceopgofiaaDoor
open Go.RowKit

/-- Texts with a comma and a blank between them. -/
def sepL : List (List UInt8) → List UInt8
  | [] => []
  | x :: r => x ++ (r.map ([44, 32] ++ ·)).flatten
theorem sepL_snoc (l : List (List UInt8)) (x : List UInt8) : sepL (l ++ [x]) = sepL l ++ (if l = [] then x else [44, 32] ++ x) := by
  cases l with
  | nil => simp [sepL]
  | cons y r => simp [sepL]
mutual
def textE : E → List UInt8
  | .mk k nm n ls xs => if k = 1 then Lib.itoa n else if k = 2 then [91] ++ sepL (ls.map Lib.itoa) ++ [93] else if k = 4 then nm else if k = 3 then nm ++ [40] ++ sepL (textL xs) ++ [41] else []
def textL : List E → List (List UInt8)
  | [] => []
  | x :: r => textE x :: textL r
end
theorem textL_map : ∀ l : List E, textL l = l.map textE
  | [] => by simp [textL]
  | x :: r => by unfold textL; rw [textL_map r]; rfl
/-- What was written of a text behind p bytes: all of it, or enough to be too long. -/
def Wr (p : Nat) (t full : List UInt8) : Prop := t = full ∨ (65536 < p + t.length ∧ t.length ≤ full.length)
theorem Wr.le {p : Nat} {t full : List UInt8} (h : Wr p t full) : t.length ≤ full.length := h.elim (fun e => by rw [e]; omega) (fun e => e.2)
theorem Wr.append {p : Nat} {t f t' f' : List UInt8} (h : Wr p t f) (h' : Wr (p + t.length) t' f') : Wr p (t ++ t') (f ++ f') := by
  rcases h with rfl | ⟨h1, h2⟩
  · rcases h' with rfl | ⟨h3, h4⟩
    · exact .inl rfl
    · exact .inr ⟨by simp; omega, by simp; omega⟩
  · have := h'.le
    exact .inr ⟨by simp; omega, by simp; omega⟩

abbrev Bld (B b : Nat) (bs : List UInt8) (w : World) : Prop := Lib.IsBuilderF 65 5 B b (Lib.byteCells bs) w
/-- What the writers leave: the builder, all that lay below it, and every other block that is no row of bytes. -/
def Kept (B b : Nat) (w w' : World) : Prop := Below B w w' ∧ Lib.OthersKept 5 (some b) w w'
theorem Kept.refl (B b : Nat) (w : World) : Kept B b w w := ⟨Below.refl _ _, Lib.OthersKept.refl _ _ _⟩
theorem Kept.trans {B b : Nat} {w w' w'' : World} (h : Kept B b w w') (k : Kept B b w' w'') : Kept B b w w'' := ⟨h.1.trans k.1, h.2.trans k.2⟩
theorem Kept.alloc {B b : Nat} {w w' : World} (h : Kept B b w w') (hB : B ≤ w.heap.size) (o : Obj) : Kept B b w (w'.alloc o) := ⟨h.1.alloc (Nat.le_trans hB h.1.size) o, h.2.alloc o⟩
theorem kept_below {B b : Nat} {w w' : World} (h : Below w.heap.size w w') (hB : B ≤ w.heap.size) : Kept B b w w' :=
  ⟨h.mono hB, fun k _ hk _ _ => (h.block k (Array.getElem?_eq_some_iff.1 hk).1).trans hk⟩
def WPost (B b : Nat) (bs full : List UInt8) (w : World) (e : Ending) (w' : World) : Prop :=
  e = .returned (.tuple #[]) ∧ ∃ t, Wr bs.length t full ∧ Bld B b (bs ++ t) w' ∧ Kept B b w w'
structure St (B b bb xb : Nat) (x : E) (cs : List Value) (bs : List UInt8) (w : World) : Prop where
  bld : Bld B b bs w
  siz : B ≤ w.heap.size
  hbb : w.heap[bb]? = some (.cells #[.pointer (some ⟨b, 0, none⟩)] 62 (0, 0))
  hxb : w.heap[xb]? = some (.cells cs.toArray 26 (0, 0))
  nbb : bb ≠ b
  nxb : xb ≠ b
  exp : ExprC w (· < B) x cs
  pow : Pows w
  gpow : 1 < B
theorem ExprC.kept {w w' : World} {B : Nat} {x : E} {cs : List Value} (h : ExprC w (· < B) x cs) (hb : Below B w w') : ExprC w' (· < B) x cs := ExprC.mono (fun b hF _ => ⟨hF, hb.block b hF⟩) x cs h
theorem St.step {B b bb xb : Nat} {x : E} {cs : List Value} {bs bs' : List UInt8} {w w' : World} (h : St B b bb xb x cs bs w) (hk : Kept B b w w') (hb : Bld B b bs' w') : St B b bb xb x cs bs' w' :=
  ⟨hb, Nat.le_trans h.siz hk.1.size, hk.2 bb _ h.hbb (by simp [h.nbb]) (by simp), hk.2 xb _ h.hxb (by simp [h.nxb]) (by simp), h.nbb, h.nxb, h.exp.kept hk.1, h.pow.keep h.gpow hk.1, h.gpow⟩

theorem writeStr_c {B b : Nat} {bs : List UInt8} {w : World} (l : List UInt8) (h : Bld B b bs w) (hBw : B ≤ w.heap.size) (hlen : bs.length + l.length ≤ 140737488355328) :
    Calls Tryd.prog 63 #[.pointer (some ⟨b, 0, none⟩), .string ⟨l.toArray⟩] w fun e w' => e = .returned (.tuple #[.int .i64 l.length, .nilIface]) ∧ Bld B b (bs ++ l) w' ∧ Kept B b w w' := by
  refine (writeString_any B b _ ⟨l.toArray⟩ w h (by simp [Lib.byteCells, ByteArray.size]; omega) hBw).mono ?_
  rintro e w' ⟨rfl, hb, hbel, hoth⟩
  refine ⟨by simp [ByteArray.size], .inr ?_, hbel, hoth⟩
  rw [Lib.byteCells_append]
  exact hb

set_option maxHeartbeats 2000000 in
set_option maxRecDepth 100000 in
theorem writeByte_any (B b : Nat) (bs : List Value) (c : Int) (w : World) (h : Lib.IsBuilderF 65 5 B b bs w) (hlen : bs.length + 1 ≤ 140737488355328) (hBw : B ≤ w.heap.size) :
    Calls Tryd.prog 65 #[.pointer (some ⟨b, 0, none⟩), .int .u8 c] w fun e w' => e = .returned .nilIface ∧ (Lib.BuilderAtF 65 5 B b (.pointer (some ⟨b, 0, none⟩)) (bs ++ [.int .u8 c]) w' ∧ Below B w w' ∧ Lib.OthersKept 5 (some b) w w') := by
  obtain ⟨i0, hi, hz0, hz1, hz2⟩ := info_parts infoByte
  go_enter Tryd.func65, Tryd.ntmps65
  go_wp2_with (go_at_call 73; refine (copyCheck_any B b bs _ h).mono ?_)
  rintro e w1 ⟨rfl, h1, hb1, hk1⟩
  obtain ⟨hB, v, hbk, hown, hne⟩ := h1
  have c0 : w1.cell? ⟨b, 0, none⟩ = some (.pointer (some ⟨b, 0, none⟩)) := by rw [Lib.cell_of_heap hbk]; rfl
  have c1 : w1.cell? ⟨b, 1, none⟩ = some v := by rw [Lib.cell_of_heap hbk]; rfl
  go_wp2_with (at_builtin; refine wpList_append_ownF _ rfl _ _ 63 rfl B 5 i0 (.int .u8 0) 1 1 Tryd.underlying63 hi hz0 hz1 hz2 rfl (by decide) _ _ _ rfl (hown.alloc _) ⟨w1.heap.size, 0, none⟩ 1 1 [.int .u8 c] rfl rfl ?c1 ?c2 ?c3 ?c4 ?c5 ?_)
  case c1 =>
    intro j u hj
    match j, hj with
    | 0, hj => simp at hj; subst hj; simp [Addr.add]
  case c2 => intro u hu; simp at hu; subst hu; rfl
  case c3 => unfold maxLen; omega
  case c4 => omega
  case c5 => have := hb1.size; simp; omega
  intro v' w2 hown' hgrow _
  have hlt : b < w1.heap.size := by
    rcases Nat.lt_or_ge b w1.heap.size with h' | h'
    · exact h'
    · simp [Array.getElem?_eq_none h'] at hbk
  have hb2 : w2.heap[b]? = some (.cells #[.pointer (some ⟨b, 0, none⟩), v] 65 (0, 0)) := by
    rw [hgrow.block b (by simp; omega) (fun e => hne e.symm), Lib.alloc_old w1 _ b hlt]
    exact hbk
  have d0 : w2.cell? ⟨b, 0, none⟩ = some (.pointer (some ⟨b, 0, none⟩)) := by rw [Lib.cell_of_heap hb2]; rfl
  have d1 : w2.cell? ⟨b, 1, none⟩ = some v := by rw [Lib.cell_of_heap hb2]; rfl
  have f1 : w2.frozen? ⟨b, 1, none⟩ = false := Lib.frozen_of_heap hb2 1
  obtain ⟨g, cap, rfl⟩ : ∃ g cap, v' = .slice (some ⟨g, 0, none⟩) (bs.length + 1) cap := by
    rcases hown'.2 with ⟨_, h0⟩ | ⟨g, cap, cur, fz, hv, _⟩
    · omega
    · exact ⟨g, cap, hv⟩
  go_wp2
  go_ret
  refine ⟨rfl, ?_, ?_, ((hk1.alloc _).grown hgrow (Lib.ownsRowF_kind (hown.alloc _))).setCell ⟨b, 1, none⟩ rfl _⟩
  · exact Lib.BuilderAtF.put (T := 65) (e := 5) hB hb2 (bs' := bs ++ [.int .u8 c]) (by simpa using hown') (by decide)
  · exact ((hb1.alloc (by have := hb1.size; omega) _).grown hgrow (by have := hb1.size; simp; omega) (fun k hk => (hown.lt k hk).1)).setCell (p := ⟨b, 1, none⟩) hB _

theorem writeByte_c {B b : Nat} {bs : List UInt8} {w : World} (c : UInt8) (h : Bld B b bs w) (hBw : B ≤ w.heap.size) (hlen : bs.length + 1 ≤ 140737488355328) :
    Calls Tryd.prog 65 #[.pointer (some ⟨b, 0, none⟩), .int .u8 c.toNat] w fun e w' => e = .returned .nilIface ∧ Bld B b (bs ++ [c]) w' ∧ Kept B b w w' := by
  refine (writeByte_any B b _ c.toNat w h (by rw [Lib.byteCells_length]; exact hlen) hBw).mono ?_
  rintro e w' ⟨rfl, hb, hbel, hoth⟩
  refine ⟨rfl, .inr ?_, hbel, hoth⟩
  rw [Lib.byteCells_append]
  exact hb
#print axioms writeByte_c
end Go.Proofs.YtbjagceopgofiaaDoor
