/-
  Names of the language, and expressions in memory.
-/
import Derived.Test.YtaddcadapbpkfaaGreatDoorProg
import Derived.WalkLawsBesides
import Derived.WalkSpells
import Derived.LoopTactic
import Derived.Outline
import Derived.KernelRfl
import Derived.Lib.Hide
import Derived.Deep.DeepCutAuto
import Derived.Laws.RangeString
import Derived.Laws.RangeAny
import Derived.Lib.Strings
import Derived.Deep.MidRow
import Derived.Deep.QuietTactic
import Derived.BigQuiet
import Derived.IntWalk
import Derived.RegionDies
import Derived.Deep.RegionLaw
import Derived.OwnWalk
import Derived.Deep.AppendLies
import Derived.Test.YtaddcadapbpkfaaGreatDoorQ01
import Derived.Test.YtaddcadapbpkfaaGreatDoorQ03
namespace Go.Proofs.YtaddcadapbpkfaaGreatDoor
open Go.RowKit

def isLet (c : UInt8) : Bool := decide (97 <= c.toNat /\ c.toNat <= 122)
def isDig (c : UInt8) : Bool := decide (48 <= c.toNat /\ c.toNat <= 57)
def inNm (c : UInt8) : Bool := isLet c || isDig c || decide (c.toNat = 95)

def runEnd (p : UInt8 -> Bool) (l : List UInt8) (i : Nat) : Nat := i + ((l.drop i).takeWhile p).length

theorem runEnd_step {p : UInt8 -> Bool} {l : List UInt8} {i : Nat} {c : UInt8} (h : l[i]? = some c) (hp : p c = true) : runEnd p l i = runEnd p l (i + 1) := by
  have hi : i < l.length := (List.getElem?_eq_some_iff.1 h).1
  have hc : l[i] = c := (List.getElem?_eq_some_iff.1 h).2
  unfold runEnd
  rw [List.drop_eq_getElem_cons hi,hc,List.takeWhile_cons,if_pos hp,List.length_cons]
  omega
theorem runEnd_stop {p : UInt8 -> Bool} {l : List UInt8} {i : Nat} {c : UInt8} (h : l[i]? = some c) (hp : p c = false) : runEnd p l i = i := by
  have hi : i < l.length := (List.getElem?_eq_some_iff.1 h).1
  have hc : l[i] = c := (List.getElem?_eq_some_iff.1 h).2
  unfold runEnd
  rw [List.drop_eq_getElem_cons hi,hc,List.takeWhile_cons,if_neg (by simp [hp])]
  simp
theorem runEnd_end {p : UInt8 -> Bool} {l : List UInt8} {i : Nat} (h : l.length <= i) : runEnd p l i = i := by
  unfold runEnd
  rw [List.drop_eq_nil_of_le h]
  simp
inductive E where
  | mk (kind : Int) (name : List UInt8) (n : Int) (list : List Int) (args : List E)

theorem isLetter_c (c : UInt8) (w : World) : Calls Tryz.prog 248 #[.int .u8 c.toNat] w fun e w' => e = .returned (.bool (isLet c)) /\ w = w' := by
  have hc : c.toNat < 256 := c.toNat_lt
  go_enter Tryz.func248,Tryz.ntmps248
  go_wp2_with fail
  all_goals (go_ret;exact ⟨ret_bool (by first | (simp [isLet];done) | (rw [Bool.eq_iff_iff];simp [isLet];omega)),rfl⟩)
theorem isDigit_c (c : UInt8) (w : World) : Calls Tryz.prog 297 #[.int .u8 c.toNat] w fun e w' => e = .returned (.bool (isDig c)) /\ w = w' := by
  have hc : c.toNat < 256 := c.toNat_lt
  go_enter Tryz.func297,Tryz.ntmps297
  go_wp2_with fail
  all_goals (go_ret;exact ⟨ret_bool (by first | (simp [isDig];done) | (rw [Bool.eq_iff_iff];simp [isDig];omega)),rfl⟩)
theorem inName_c (c : UInt8) (w : World) : Calls Tryz.prog 250 #[.int .u8 c.toNat] w fun e w' => e = .returned (.bool (inNm c)) /\ w = w' := by
  have hc : c.toNat < 256 := c.toNat_lt
  have HI : Hid (inNm c = (isLet c || isDig c || decide (c.toNat = 95))) := rfl
  cases hl : isLet c <;> cases hd : isDig c <;>
  . go_enter Tryz.func250,Tryz.ntmps250
    go_wp2_with (first
      | (go_at_call 248;refine (isLetter_c _ _).mono ?_;rintro e w' ⟨rfl,rfl⟩)
      | (go_at_call 297;refine (isDigit_c _ _).mono ?_;rintro e w' ⟨rfl,rfl⟩))
    all_goals (go_ret;exact ⟨ret_bool (by rw [HI.out,hl,hd];first | rfl | (simp;done) | (rw [Bool.eq_iff_iff];simp;done) | (rw [Bool.eq_iff_iff];simp;omega)),rfl⟩)

theorem byte_at (s : ByteArray) (k : Nat) (h : k < s.size) : s.data.toList[k]? = some s[k] := by
  rw [List.getElem?_eq_getElem (by simpa using h)]
  rfl
def RelRun (p : UInt8 -> Bool) (s : ByteArray) (i : Nat) (t : Value) : Prop :=
  ∃ k : Nat,k <= s.size /\ t = .int .i64 k /\ runEnd p s.data.toList k = runEnd p s.data.toList i
set_option maxHeartbeats 1000000 in
theorem while_in (s : ByteArray) (i : Nat) (w : World) (hs : s.size <= 65536) (hi : i <= s.size) :
    Calls Tryz.prog 249 #[.string s,.int .i64 i,.func (.func 250) #[] #[]] w fun e w' => e = .returned (.int .i64 (runEnd inNm s.data.toList i)) /\ w = w' := by
  go_enter Tryz.func249,Tryz.ntmps249
  go_wp2_with fail
  go_loop [1] (fun t => RelRun inNm s i t) (fun t => s.size - (intOf t).toNat)
  case atStart => exact ⟨i,hi,rfl,rfl⟩
  case round =>
    obtain ⟨k,hk,rfl,hr⟩ := hrel
    have HR := Lib.hid hr
    clear hr
    by_cases hlt : k < s.size
    . have hb := byte_at s k hlt
      have HB := Lib.hid hb
      clear hb
      cases hp : inNm s[k]
      . go_wp2_with (go_at_call 250;refine (inName_c _ _).mono ?_;rintro e w' ⟨rfl,rfl⟩)
        go_ret
        exact ⟨ret_int (by rw [<- HR.out,runEnd_stop HB.out hp]),rfl⟩
      . go_wp2_with (go_at_call 250;refine (inName_c _ _).mono ?_;rintro e w' ⟨rfl,rfl⟩)
        go_round
        case rel => exact ⟨k + 1,by omega,by go_num,by rw [<- HR.out,runEnd_step HB.out hp]⟩
        case measure => simp [intOf];omega
    . go_wp2_with fail
      go_ret
      exact ⟨ret_int (by rw [<- HR.out,runEnd_end (by simp;omega)]),rfl⟩
theorem len_data (s : ByteArray) : s.data.toList.length = s.size := Array.length_toList
theorem exprSize : (Tryz.prog.info? 25).map (·.size) = some 5 := by kernel_rfl

def IntsF (w : World) (F : Nat -> Prop) (A : Option Addr) (zs : List Int) : Prop :=
  0 < zs.length -> ∃ b o,A = some ⟨b,o,none⟩ /\ F b /\ ∀ j,j < zs.length -> w.cell? ⟨b,o + j,none⟩ = some (.int .i64 (zs.getD j 0))

mutual
def ExprC (w : World) (F : Nat -> Prop) : E -> List Value -> Prop
  | .mk k nm n ls az,cs => ∃ la lc aa ac,cs = [.int .i64 k,.string ⟨nm.toArray⟩,.int .i64 n,.slice la ls.length lc,.slice aa az.length ac] /\ IntsF w F la ls /\
      (0 < az.length -> ∃ b o,aa = some ⟨b,o,none⟩ /\ F b /\ ExprsC w F b o az)
def ExprsC (w : World) (F : Nat -> Prop) : Nat -> Nat -> List E -> Prop
  | _,_,[] => True
  | b,o,x :: r => (∃ cs,w.rangeAt b o cs /\ ExprC w F x cs) /\ ExprsC w F b (o + 5) r
end

theorem IntsF.mono {w w' : World} {F F' : Nat -> Prop} {A : Option Addr} {zs : List Int} (h : IntsF w F A zs) (hF : ∀ b,F b -> b < w.heap.size -> F' b /\ w'.heap[b]? = w.heap[b]?) : IntsF w' F' A zs := fun hz => by
  obtain ⟨b,o,e,hb,hc⟩ := h hz
  have hlt := World.block_lt_of_cell? w _ (hc 0 hz)
  obtain ⟨h1,h2⟩ := hF b hb hlt
  exact ⟨b,o,e,h1,fun j hj => (World.cell?_of_block (a := ⟨b,o + j,none⟩) h2).trans (hc j hj)⟩
theorem ExprC.len {w : World} {F : Nat -> Prop} {x : E} {cs : List Value} (h : ExprC w F x cs) : cs.length = 5 := by
  cases x
  unfold ExprC at h
  obtain ⟨la,lc,aa,ac,rfl,_⟩ := h
  rfl
theorem range_lt {w : World} {b o : Nat} {cs : List Value} (h : w.rangeAt b o cs) (hl : 0 < cs.length) : b < w.heap.size :=
  World.block_lt_of_cell? w ⟨b,o + 0,none⟩ (h 0 cs[0] (List.getElem?_eq_getElem hl))
mutual
theorem ExprC.mono {w w' : World} {F F' : Nat -> Prop} (hF : ∀ b,F b -> b < w.heap.size -> F' b /\ w'.heap[b]? = w.heap[b]?) : ∀ (x : E) (cs : List Value),ExprC w F x cs -> ExprC w' F' x cs
  | .mk k nm n ls az,cs,h => by
    unfold ExprC at h ⊢
    obtain ⟨la,lc,aa,ac,e,hi,ha⟩ := h
    refine ⟨la,lc,aa,ac,e,hi.mono hF,fun hz => ?_⟩
    obtain ⟨b,o,e2,hb,hx⟩ := ha hz
    have hlt : b < w.heap.size := by
      cases az with
      | nil => simp at hz
      | cons x r =>
        unfold ExprsC at hx
        obtain ⟨⟨cs',hr,hc⟩,_⟩ := hx
        exact range_lt hr (by rw [hc.len];omega)
    obtain ⟨h1,h2⟩ := hF b hb hlt
    exact ⟨b,o,e2,h1,ExprsC.mono hF h2 az o hx⟩
theorem ExprsC.mono {w w' : World} {F F' : Nat -> Prop} (hF : ∀ b,F b -> b < w.heap.size -> F' b /\ w'.heap[b]? = w.heap[b]?) {b : Nat} (hb : w'.heap[b]? = w.heap[b]?) : ∀ (az : List E) (o : Nat),ExprsC w F b o az -> ExprsC w' F' b o az
  | [],o,h => by unfold ExprsC;trivial
  | x :: r,o,h => by
    unfold ExprsC at h ⊢
    obtain ⟨⟨cs,hr,hc⟩,h2⟩ := h
    exact ⟨⟨cs,fun j v hv => (World.cell?_of_block (a := ⟨b,o + j,none⟩) hb).trans (hr j v hv),ExprC.mono hF x cs hc⟩,ExprsC.mono hF hb r (o + 5) h2⟩
end
theorem ExprsC.at_ {w : World} {F : Nat -> Prop} {b : Nat} : ∀ (az : List E) (o i : Nat) (x : E),ExprsC w F b o az -> az[i]? = some x -> ∃ cs,w.rangeAt b (o + i * 5) cs /\ ExprC w F x cs
  | [],o,i,x,_,h => by simp at h
  | y :: r,o,i,x,hx,h => by
    unfold ExprsC at hx
    cases i with
    | zero =>
      simp at h
      subst h
      simpa using hx.1
    | succ i =>
      obtain ⟨cs,h1,h2⟩ := ExprsC.at_ r (o + 5) i x hx.2 (by simpa using h)
      exact ⟨cs,by rw [show o + (i + 1) * 5 = o + 5 + i * 5 by omega];exact h1,h2⟩
end Go.Proofs.YtaddcadapbpkfaaGreatDoor

