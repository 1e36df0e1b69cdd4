/-
 Names of the language, and expressions in memory. compile: what expressions mean, plain: the row that a call has, the arguments in their order, the first error; what values are in memory.
-/
import Derived.Test.YtaddcadapbpkfaaGreatDoorProg
import Derived.WalkLawsBesides
import Derived.WalkSpells
import Derived.LoopTactic
import Derived.Outline
import Derived.KernelRfl
import Derived.Lib.Hide
import Derived.Deep.DeepCutAuto
import Derived.Laws.RangeString
import Derived.Laws.RangeAny
import Derived.Lib.Strings
import Derived.Deep.MidRow
import Derived.Deep.QuietTactic
import Derived.BigQuiet
import Derived.IntWalk
import Derived.RegionDies
import Derived.Deep.RegionLaw
import Derived.OwnWalk
import Derived.Deep.AppendLies
import Derived.Test.YtaddcadapbpkfaaGreatDoorR01
import Derived.Test.YtaddcadapbpkfaaGreatDoorR03
import Derived.Test.YtaddcadapbpkfaaGreatDoorR19
namespace Go.Proofs.YtaddcadapbpkfaaGreatDoor
open Go.RowKit
def isLet (c : UInt8) : Bool := decide (97 <= c.toNat /\ c.toNat <= 122)
def isDig (c : UInt8) : Bool := decide (48 <= c.toNat /\ c.toNat <= 57)
def inNm (c : UInt8) : Bool := isLet c || isDig c || decide (c.toNat = 95)
def runEnd (p : UInt8 -> Bool) (l : List UInt8) (i : Nat) : Nat := i + ((l.drop i).takeWhile p).length
theorem qeC {p : UInt8 -> Bool} {l : List UInt8} {i : Nat} {c : UInt8} (h : l[i]? = some c) (hp : p c = true) : runEnd p l i = runEnd p l (i + 1) := by
 have hi : i < l.length := (List.getElem?_eq_some_iff.1 h).1
 have hc : l[i] = c := (List.getElem?_eq_some_iff.1 h).2
 unfold runEnd
 rw [List.drop_eq_getElem_cons hi,hc,List.takeWhile_cons,if_pos hp,List.length_cons]
 omega
theorem runEnd_stop {p : UInt8 -> Bool} {l : List UInt8} {i : Nat} {c : UInt8} (h : l[i]? = some c) (hp : p c = false) : runEnd p l i = i := by
 have hi : i < l.length := (List.getElem?_eq_some_iff.1 h).1
 have hc : l[i] = c := (List.getElem?_eq_some_iff.1 h).2
 unfold runEnd
 rw [List.drop_eq_getElem_cons hi,hc,List.takeWhile_cons,if_neg (by simp [hp])]
 simp
theorem runEnd_end {p : UInt8 -> Bool} {l : List UInt8} {i : Nat} (h : l.length <= i) : runEnd p l i = i := by
 unfold runEnd
 rw [List.drop_eq_nil_of_le h]
 simp
inductive E where
 | mk (kind : Int) (name : List UInt8) (n : Int) (list : List Int) (args : List E)
theorem isLetter_c (c : UInt8) (w : World) : Calls Tryz.prog 248 #[.int .u8 c.toNat] w fun e w' => e = .returned (.bool (isLet c)) /\ w = w' := by
 have hc : c.toNat < 256 := c.toNat_lt
 go_enter Tryz.func248,Tryz.ntmps248
 go_wp2_with fail
 all_goals (go_ret;exact ⟨qaG (by first | (simp [isLet];done) | (rw [Bool.eq_iff_iff];simp [isLet];omega)),rfl⟩)
theorem isDigit_c (c : UInt8) (w : World) : Calls Tryz.prog 297 #[.int .u8 c.toNat] w fun e w' => e = .returned (.bool (isDig c)) /\ w = w' := by
 have hc : c.toNat < 256 := c.toNat_lt
 go_enter Tryz.func297,Tryz.ntmps297
 go_wp2_with fail
 all_goals (go_ret;exact ⟨qaG (by first | (simp [isDig];done) | (rw [Bool.eq_iff_iff];simp [isDig];omega)),rfl⟩)
theorem inName_c (c : UInt8) (w : World) : Calls Tryz.prog 250 #[.int .u8 c.toNat] w fun e w' => e = .returned (.bool (inNm c)) /\ w = w' := by
 have hc : c.toNat < 256 := c.toNat_lt
 have HI : Hid (inNm c = (isLet c || isDig c || decide (c.toNat = 95))) := rfl
 cases hl : isLet c <;> cases hd : isDig c <;>
 . go_enter Tryz.func250,Tryz.ntmps250
   go_wp2_with (first
    | (go_at_call 248;refine (isLetter_c _ _).mono ?_;rintro e w' ⟨rfl,rfl⟩)
    | (go_at_call 297;refine (isDigit_c _ _).mono ?_;rintro e w' ⟨rfl,rfl⟩))
   all_goals (go_ret;exact ⟨qaG (by rw [HI.out,hl,hd];first | rfl | (simp;done) | (rw [Bool.eq_iff_iff];simp;done) | (rw [Bool.eq_iff_iff];simp;omega)),rfl⟩)
theorem byte_at (s : ByteArray) (k : Nat) (h : k < s.size) : s.data.toList[k]? = some s[k] := by
 rw [List.getElem?_eq_getElem (by simpa using h)]
 rfl
def RelRun (p : UInt8 -> Bool) (s : ByteArray) (i : Nat) (t : Value) : Prop :=
 ∃ k : Nat,k <= s.size /\ t = .int .i64 k /\ runEnd p s.data.toList k = runEnd p s.data.toList i
set_option maxHeartbeats 1000000 in
theorem while_in (s : ByteArray) (i : Nat) (w : World) (hs : s.size <= 65536) (hi : i <= s.size) :
 Calls Tryz.prog 249 #[.string s,.int .i64 i,.func (.func 250) #[] #[]] w fun e w' => e = .returned (.int .i64 (runEnd inNm s.data.toList i)) /\ w = w' := by
 go_enter Tryz.func249,Tryz.ntmps249
 go_wp2_with fail
 go_loop [1] (fun t => RelRun inNm s i t) (fun t => s.size - (intOf t).toNat)
 case atStart => exact ⟨i,hi,rfl,rfl⟩
 case round =>
  obtain ⟨k,hk,rfl,hr⟩ := hrel
  have HR := Lib.hid hr
  clear hr
  by_cases hlt : k < s.size
  . have hb := byte_at s k hlt
    have HB := Lib.hid hb
    clear hb
    cases hp : inNm s[k]
    . go_wp2_with (go_at_call 250;refine (inName_c _ _).mono ?_;rintro e w' ⟨rfl,rfl⟩)
      go_ret
      exact ⟨qaM (by rw [<- HR.out,runEnd_stop HB.out hp]),rfl⟩
    . go_wp2_with (go_at_call 250;refine (inName_c _ _).mono ?_;rintro e w' ⟨rfl,rfl⟩)
      go_round
      case rel => exact ⟨k + 1,by omega,by go_num,by rw [<- HR.out,qeC HB.out hp]⟩
      case measure => simp [intOf];omega
  . go_wp2_with fail
    go_ret
    exact ⟨qaM (by rw [<- HR.out,runEnd_end (by simp;omega)]),rfl⟩
theorem qeB (s : ByteArray) : s.data.toList.length = s.size := Array.length_toList
theorem exprSize : (Tryz.prog.info? 25).map (·.size) = some 5 := by kernel_rfl
def IntsF (w : World) (F : Nat -> Prop) (A : Option Addr) (zs : List Int) : Prop :=
 0 < zs.length -> ∃ b o,A = some ⟨b,o,none⟩ /\ F b /\ ∀ j,j < zs.length -> w.cell? ⟨b,o + j,none⟩ = some (.int .i64 (zs.getD j 0))
mutual
def ExprC (w : World) (F : Nat -> Prop) : E -> List Value -> Prop
 | .mk k nm n ls az,cs => ∃ la lc aa ac,cs = [.int .i64 k,.string ⟨nm.toArray⟩,.int .i64 n,.slice la ls.length lc,.slice aa az.length ac] /\ IntsF w F la ls /\
    (0 < az.length -> ∃ b o,aa = some ⟨b,o,none⟩ /\ F b /\ ExprsC w F b o az)
def ExprsC (w : World) (F : Nat -> Prop) : Nat -> Nat -> List E -> Prop
 | _,_,[] => True
 | b,o,x :: r => (∃ cs,w.rangeAt b o cs /\ ExprC w F x cs) /\ ExprsC w F b (o + 5) r
end
theorem IntsF.mono {w w' : World} {F F' : Nat -> Prop} {A : Option Addr} {zs : List Int} (h : IntsF w F A zs) (hF : ∀ b,F b -> b < w.heap.size -> F' b /\ w'.heap[b]? = w.heap[b]?) : IntsF w' F' A zs := fun hz => by
 obtain ⟨b,o,e,hb,hc⟩ := h hz
 have hlt := World.block_lt_of_cell? w _ (hc 0 hz)
 obtain ⟨h1,h2⟩ := hF b hb hlt
 exact ⟨b,o,e,h1,fun j hj => (World.cell?_of_block (a := ⟨b,o + j,none⟩) h2).trans (hc j hj)⟩
theorem ExprC.len {w : World} {F : Nat -> Prop} {x : E} {cs : List Value} (h : ExprC w F x cs) : cs.length = 5 := by
 cases x
 unfold ExprC at h
 obtain ⟨la,lc,aa,ac,rfl,_⟩ := h
 rfl
theorem qcX {w : World} {b o : Nat} {cs : List Value} (h : w.rangeAt b o cs) (hl : 0 < cs.length) : b < w.heap.size :=
 World.block_lt_of_cell? w ⟨b,o + 0,none⟩ (h 0 cs[0] (List.getElem?_eq_getElem hl))
mutual
theorem ExprC.mono {w w' : World} {F F' : Nat -> Prop} (hF : ∀ b,F b -> b < w.heap.size -> F' b /\ w'.heap[b]? = w.heap[b]?) : ∀ (x : E) (cs : List Value),ExprC w F x cs -> ExprC w' F' x cs
 | .mk k nm n ls az,cs,h => by
   unfold ExprC at h ⊢
   obtain ⟨la,lc,aa,ac,e,hi,ha⟩ := h
   refine ⟨la,lc,aa,ac,e,hi.mono hF,fun hz => ?_⟩
   obtain ⟨b,o,e2,hb,hx⟩ := ha hz
   have hlt : b < w.heap.size := by
    cases az with
    | nil => simp at hz
    | cons x r =>
      unfold ExprsC at hx
      obtain ⟨⟨cs',hr,hc⟩,_⟩ := hx
      exact qcX hr (by rw [hc.len];omega)
   obtain ⟨h1,h2⟩ := hF b hb hlt
   exact ⟨b,o,e2,h1,ExprsC.mono hF h2 az o hx⟩
theorem ExprsC.mono {w w' : World} {F F' : Nat -> Prop} (hF : ∀ b,F b -> b < w.heap.size -> F' b /\ w'.heap[b]? = w.heap[b]?) {b : Nat} (hb : w'.heap[b]? = w.heap[b]?) : ∀ (az : List E) (o : Nat),ExprsC w F b o az -> ExprsC w' F' b o az
 | [],o,h => by unfold ExprsC;trivial
 | x :: r,o,h => by
   unfold ExprsC at h ⊢
   obtain ⟨⟨cs,hr,hc⟩,h2⟩ := h
   exact ⟨⟨cs,fun j v hv => (World.cell?_of_block (a := ⟨b,o + j,none⟩) hb).trans (hr j v hv),ExprC.mono hF x cs hc⟩,ExprsC.mono hF hb r (o + 5) h2⟩
end
theorem ExprsC.at_ {w : World} {F : Nat -> Prop} {b : Nat} : ∀ (az : List E) (o i : Nat) (x : E),ExprsC w F b o az -> az[i]? = some x -> ∃ cs,w.rangeAt b (o + i * 5) cs /\ ExprC w F x cs
 | [],o,i,x,_,h => by simp at h
 | y :: r,o,i,x,hx,h => by
   unfold ExprsC at hx
   cases i with
   | zero =>
     simp at h
     subst h
     simpa using hx.1
   | succ i =>
     obtain ⟨cs,h1,h2⟩ := ExprsC.at_ r (o + 5) i x hx.2 (by simpa using h)
     exact ⟨cs,by rw [show o + (i + 1) * 5 = o + 5 + i * 5 by omega];exact h1,h2⟩
end Go.Proofs.YtaddcadapbpkfaaGreatDoor
namespace Go.Proofs.YtaddcadapbpkfaaGreatDoor
open Go.RowKit Pln
inductive VM
 | fld (p m : Int) (mod : List Int)
 | cod (p m : Int) (mod : List Int) (n : Int) (rows : List (List Nat))
 | num (n : Int)
 | lst (l : List Int)
abbrev Res := Except Int VM
abbrev Sem := List UInt8 -> List VM -> Res
def argsK (nm : List UInt8) : Option (List UInt8) := (rowT.find? fun d => decide (d.k.data.toList = nm)).map fun d => d.a.data.toList
def rowM (k : Int) (nm : List UInt8) (n : Nat) (isF : Bool) : Except Int (List UInt8) :=
 if k = 4 then .error 15
 else if k = 3 then
  if nm = gfN then
   if isF = true then if n = 1 then .ok [78] else if n = 3 then .ok [78,78,76] else .error 16
   else .error 17
  else match argsK nm with
   | none => .error 15
   | some a => if isF = true then .error 17 else if a.length = n then .ok a else .error 16
 else .error 17
def litM (k n : Int) (ls : List Int) (kd : UInt8) : Res :=
 if k = 4 then .error 15 else if kd = 78 /\ k = 1 then .ok (.num n) else if kd = 76 /\ k = 2 then .ok (.lst ls) else .error 17
def E.k : E -> Int | .mk k _ _ _ _ => k
def E.n : E -> Int | .mk _ _ n _ _ => n
def E.ls : E -> List Int | .mk _ _ _ ls _ => ls
mutual
def meanM (S : Sem) : E -> Bool -> Res
 | .mk k nm _ _ xs,isF => match rowM k nm xs.length isF with
   | .error e => .error e
   | .ok ks => match meanL S xs ks with
     | .error e => .error e
     | .ok vs => S nm vs
def meanL (S : Sem) : List E -> List UInt8 -> Except Int (List VM)
 | [],_ => .ok []
 | _ :: _,[] => .ok []
 | x :: r,kd :: ks => match (if kd = 70 \/ kd = 67 then meanM S x (decide (kd = 70)) else litM x.k x.n x.ls kd) with
   | .error e => .error e
   | .ok v => match meanL S r ks with
     | .error e => .error e
     | .ok vs => .ok (v :: vs)
end
def argM (S : Sem) (x : E) (kd : UInt8) : Res := if kd = 70 \/ kd = 67 then meanM S x (decide (kd = 70)) else litM x.k x.n x.ls kd
section
variable {S : Sem}
theorem qcH (x : E) (r : List E) (kd : UInt8) (ks : List UInt8) : meanL S (x :: r) (kd :: ks) = match argM S x kd with
 | .error e => .error e
 | .ok v => match meanL S r ks with
   | .error e => .error e
   | .ok vs => .ok (v :: vs) := by
 conv => lhs;unfold meanL
 rfl
def Upto (S : Sem) (xs : List E) (ks : List UInt8) (i : Nat) (vs : List VM) : Prop := vs.length = i /\ ∀ j,j < i -> ∃ x kd v,xs[j]? = some x /\ ks[j]? = some kd /\ vs[j]? = some v /\ argM S x kd = .ok v
theorem Upto.zero (xs : List E) (ks : List UInt8) : Upto S xs ks 0 [] := ⟨rfl,fun j h => by omega⟩
theorem Upto.snoc {xs : List E} {ks : List UInt8} {i : Nat} {vs : List VM} (h : Upto S xs ks i vs) {x : E} {kd : UInt8} {v : VM} (hx : xs[i]? = some x) (hk : ks[i]? = some kd) (hv : argM S x kd = .ok v) : Upto S xs ks (i + 1) (vs ++ [v]) := by
 refine ⟨by simp [h.1],fun j hj => ?_⟩
 rcases Nat.lt_or_ge j i with hlt | hge
 . obtain ⟨x',kd',v',e1,e2,e3,e4⟩ := h.2 j hlt
   exact ⟨x',kd',v',e1,e2,by rw [List.getElem?_append_left (by rw [h.1];exact hlt)];exact e3,e4⟩
 . obtain rfl : j = i := by omega
   exact ⟨x,kd,v,hx,hk,by rw [List.getElem?_append_right (by rw [h.1];exact Nat.le_refl _),h.1];simp,hv⟩
theorem Upto.tail {y : E} {xs : List E} {kd : UInt8} {ks : List UInt8} {i : Nat} {v : VM} {vs : List VM} (h : Upto S (y :: xs) (kd :: ks) (i + 1) (v :: vs)) : argM S y kd = .ok v /\ Upto S xs ks i vs := by
 refine ⟨?_,by have := h.1;simpa using this,fun j hj => ?_⟩
 . obtain ⟨x,kd',v',e1,e2,e3,e4⟩ := h.2 0 (by omega)
   simp at e1 e2 e3
   subst e1 e2 e3
   exact e4
 . obtain ⟨x,kd',v',e1,e2,e3,e4⟩ := h.2 (j + 1) (by omega)
   exact ⟨x,kd',v',by simpa using e1,by simpa using e2,by simpa using e3,e4⟩
theorem Upto.all : ∀ {xs : List E} {ks : List UInt8} {vs : List VM},xs.length = ks.length -> Upto S xs ks xs.length vs -> meanL S xs ks = .ok vs
 | [],ks,vs,_,h => by
   have := h.1
   simp at this
   subst this
   unfold meanL
   rfl
 | x :: xs,[],vs,hl,_ => by simp at hl
 | x :: xs,kd :: ks,[],_,h => by have := h.1;simp at this
 | x :: xs,kd :: ks,v :: vs,hl,h => by
   obtain ⟨h1,h2⟩ := Upto.tail h
   rw [qcH,h1,Upto.all (by simpa using hl) h2]
theorem Upto.err : ∀ {xs : List E} {ks : List UInt8} {vs : List VM} {i : Nat} {x : E} {kd : UInt8} {e : Int},Upto S xs ks i vs -> xs[i]? = some x -> ks[i]? = some kd -> argM S x kd = .error e -> meanL S xs ks = .error e
 | [],ks,vs,i,x,kd,e,_,hx,_,_ => by simp at hx
 | y :: xs,[],vs,i,x,kd,e,_,_,hk,_ => by simp at hk
 | y :: xs,k0 :: ks,[],i,x,kd,e,h,hx,hk,he => by
   have h0 : i = 0 := by have := h.1;simp at this;omega
   subst h0
   simp at hx hk
   subst hx hk
   rw [qcH,he]
 | y :: xs,k0 :: ks,v :: vs,i,x,kd,e,h,hx,hk,he => by
   obtain ⟨i,rfl⟩ : ∃ n,i = n + 1 := ⟨i - 1,by have := h.1;simp at this;omega⟩
   obtain ⟨h1,h2⟩ := Upto.tail h
   rw [qcH,h1,Upto.err h2 (by simpa using hx) (by simpa using hk) he]
end
def RowsF (w : World) (F : Nat -> Prop) (A : Option Addr) (zs : List (List Int)) : Prop :=
 0 < zs.length -> ∃ b o,A = some ⟨b,o,none⟩ /\ F b /\ ∀ i,i < zs.length -> ∃ (Ai : Option Addr) (ci : Nat),w.cell? ⟨b,o + i,none⟩ = some (.slice Ai (zs.getD i []).length ci) /\ IntsF w F Ai (zs.getD i [])
theorem RowsF.mono {w w' : World} {F F' : Nat -> Prop} {A : Option Addr} {zs : List (List Int)} (h : RowsF w F A zs) (hF : ∀ b,F b -> b < w.heap.size -> F' b /\ w'.heap[b]? = w.heap[b]?) : RowsF w' F' A zs := fun hz => by
 obtain ⟨b,o,e,hb,hc⟩ := h hz
 have hlt : b < w.heap.size := by
  obtain ⟨Ai,ci,h1,_⟩ := hc 0 hz
  exact World.block_lt_of_cell? w _ h1
 obtain ⟨h1,h2⟩ := hF b hb hlt
 refine ⟨b,o,e,h1,fun i hi => ?_⟩
 obtain ⟨Ai,ci,h3,h4⟩ := hc i hi
 exact ⟨Ai,ci,(World.cell?_of_block (a := ⟨b,o + i,none⟩) h2).trans h3,h4.mono hF⟩
theorem IntsF.at_ {w : World} {F : Nat -> Prop} {A : Option Addr} {zs : List Int} (h : IntsF w F A zs) : IntsAt w w.heap.size A zs := fun hz => by
 obtain ⟨b,o,e,_,hc⟩ := h hz
 exact ⟨b,o,e,World.block_lt_of_cell? w _ (hc 0 hz),hc⟩
theorem RowsF.at_ {w : World} {F : Nat -> Prop} {A : Option Addr} {zs : List (List Int)} (h : RowsF w F A zs) : RowsAt w w.heap.size A zs := fun hz => by
 obtain ⟨b,o,e,_,hc⟩ := h hz
 refine ⟨b,o,e,?_,fun i hi => ?_⟩
 . obtain ⟨Ai,ci,h1,_⟩ := hc 0 hz
   exact World.block_lt_of_cell? w _ h1
 . obtain ⟨Ai,ci,h1,h2⟩ := hc i hi
   exact ⟨Ai,ci,h1,h2.at_⟩
theorem ints_up {w : World} {lo : Nat} {A : Option Addr} {zs : List Int} (h : IntsUp w lo A zs) : IntsF w (lo <= ·) A zs := fun hz => by
 obtain ⟨b,o,e,hlo,_,hc⟩ := h hz
 exact ⟨b,o,e,hlo,hc⟩
theorem rows_up {w : World} {lo : Nat} {A : Option Addr} {zs : List (List Int)} (h : RowsUp w lo A zs) : RowsF w (lo <= ·) A zs := fun hz => by
 obtain ⟨b,o,e,hlo,_,hc⟩ := h hz
 refine ⟨b,o,e,hlo,fun i hi => ?_⟩
 obtain ⟨bi,oi,ci,h1,h2,h3,h4⟩ := hc i hi
 exact ⟨_,ci,h1,fun _ => ⟨bi,oi,rfl,h2,h4⟩⟩
def ValC (w : World) (F : Nat -> Prop) : VM -> List Value -> Prop
 | .fld p m mod,cs => ∃ A c,cs = [.int .i64 p,.int .i64 m,.slice A mod.length c,.int .i64 0,.int .i64 0,.slice none 0 0,.int .i64 0,.slice none 0 0,.int .i64 0,.slice none 0 0] /\ IntsF w F A mod
 | .cod p m mod n rows,cs => ∃ A c R k,cs = [.int .i64 0,.int .i64 0,.slice none 0 0,.int .i64 p,.int .i64 m,.slice A mod.length c,.int .i64 n,.slice R rows.length k,.int .i64 0,.slice none 0 0] /\ IntsF w F A mod /\ RowsF w F R (nzs rows)
 | .num n,cs => cs = [.int .i64 0,.int .i64 0,.slice none 0 0,.int .i64 0,.int .i64 0,.slice none 0 0,.int .i64 0,.slice none 0 0,.int .i64 n,.slice none 0 0]
 | .lst l,cs => ∃ A c,cs = [.int .i64 0,.int .i64 0,.slice none 0 0,.int .i64 0,.int .i64 0,.slice none 0 0,.int .i64 0,.slice none 0 0,.int .i64 0,.slice A l.length c] /\ IntsF w F A l
theorem ValC.mono {w w' : World} {F F' : Nat -> Prop} {v : VM} {cs : List Value} (h : ValC w F v cs) (hF : ∀ b,F b -> b < w.heap.size -> F' b /\ w'.heap[b]? = w.heap[b]?) : ValC w' F' v cs := by
 cases v with
 | fld p m mod => obtain ⟨A,c,e,h1⟩ := h;exact ⟨A,c,e,h1.mono hF⟩
 | cod p m mod n rows => obtain ⟨A,c,R,k,e,h1,h2⟩ := h;exact ⟨A,c,R,k,e,h1.mono hF,h2.mono hF⟩
 | num n => exact h
 | lst l => obtain ⟨A,c,e,h1⟩ := h;exact ⟨A,c,e,h1.mono hF⟩
theorem ValC.keep {w w' : World} {F : Nat -> Prop} {v : VM} {cs : List Value} (h : ValC w F v cs) (hb : Below w.heap.size w w') : ValC w' F v cs := h.mono fun b hF hlt => ⟨hF,hb.block b hlt⟩
theorem ValC.more {w : World} {F F' : Nat -> Prop} {v : VM} {cs : List Value} (h : ValC w F v cs) (hF : ∀ b,F b -> b < w.heap.size -> F' b) : ValC w F' v cs := h.mono fun b hb hlt => ⟨hF b hb hlt,rfl⟩
theorem qbQ {l : List Value} (h : (l.all fun v => v.oneCell') = true) : ∀ x ∈ l,x.oneCell' = true := fun x hx => List.all_eq_true.1 h x hx
theorem ValC.ten {w : World} {F : Nat -> Prop} {v : VM} {cs : List Value} (h : ValC w F v cs) : cs.length = 10 /\ ∀ x ∈ cs,x.oneCell' = true := by
 cases v with
 | fld p m mod => obtain ⟨A,c,rfl,h1⟩ := h;exact ⟨rfl,qbQ rfl⟩
 | cod p m mod n rows => obtain ⟨A,c,R,k,rfl,h1,h2⟩ := h;exact ⟨rfl,qbQ rfl⟩
 | num n =>
   have h : cs = _ := h
   subst h
   exact ⟨rfl,qbQ rfl⟩
 | lst l => obtain ⟨A,c,rfl,h1⟩ := h;exact ⟨rfl,qbQ rfl⟩
def MeanPost (w : World) (F : Nat -> Prop) (r : Res) (e : Ending) (w' : World) : Prop :=
 (∃ (cs : List Value) (k : Int),e = .returned (.tuple #[.agg cs.toArray,.int .i64 k]) /\ cs.length = 10 /\ (∀ x ∈ cs,x.oneCell' = true) /\ match r with
   | .error k' => k = k' /\ k' ≠ 0
   | .ok v => k = 0 /\ ValC w' (fun b => F b \/ w.heap.size <= b) v cs) /\ Below w.heap.size w w'
structure ValsAt (w : World) (F : Nat -> Prop) (g tot : Nat) (vs : List VM) : Prop where
 lt : g < w.heap.size
 out : ¬ F g
 there : w.there g 0 (tot * 10)
 len : vs.length <= tot
 val : ∀ (j : Nat) (v : VM),vs[j]? = some v -> ∃ cs,ValC w F v cs /\ w.rangeAt g (j * 10) cs
theorem there_keep {w w' : World} {b o n : Nat} (h : w.there b o n) (hb : w'.heap[b]? = w.heap[b]?) : w'.there b o n := fun j hj => by
 obtain ⟨h1,h2⟩ := h j hj
 refine ⟨?_,?_⟩
 . rw [World.cell?_of_block (a := ⟨b,o + j,none⟩) hb]
   exact h1
 . have : w'.frozen? ⟨b,o + j,none⟩ = w.frozen? ⟨b,o + j,none⟩ := by unfold World.frozen?;rw [hb]
   rw [this]
   exact h2
theorem qaJ {w w' : World} {b o : Nat} {cs : List Value} (h : w.rangeAt b o cs) (hb : w'.heap[b]? = w.heap[b]?) : w'.rangeAt b o cs := fun j u hu => (World.cell?_of_block (a := ⟨b,o + j,none⟩) hb).trans (h j u hu)
theorem ValsAt.keep {w w' : World} {F : Nat -> Prop} {g tot : Nat} {vs : List VM} (h : ValsAt w F g tot vs) (hb : Below w.heap.size w w') : ValsAt w' F g tot vs := by
 have hg := hb.block g h.lt
 refine ⟨Nat.lt_of_lt_of_le h.lt hb.size,h.out,there_keep h.there hg,h.len,fun j v hj => ?_⟩
 obtain ⟨cs,hc,hr⟩ := h.val j v hj
 exact ⟨cs,hc.keep hb,qaJ hr hg⟩
theorem qbT (B b : Nat) (hB : B <= b) : ∀ (vs : List Value) (o : Nat) (w : World),Below B w (w.setCells b o vs)
 | [],_,_ => Below.refl _ _
 | v :: r,o,w => ((Below.refl B w).setCell (p := ⟨b,o,none⟩) hB v).trans (qbT B b hB r (o + 1) (w.setCell ⟨b,o,none⟩ v))
theorem qbE (b k : Nat) (hk : k ≠ b) : ∀ (vs : List Value) (o : Nat) (w : World),(w.setCells b o vs).heap[k]? = w.heap[k]?
 | [],_,_ => rfl
 | v :: r,o,w => (qbE b k hk r (o + 1) (w.setCell ⟨b,o,none⟩ v)).trans (Below.heap_setCell w ⟨b,o,none⟩ v k hk)
theorem qdV (b : Nat) : ∀ (vs : List Value) (o : Nat) (w : World),(w.setCells b o vs).heap.size = w.heap.size
 | [],_,_ => rfl
 | v :: r,o,w => (qdV b r (o + 1) (w.setCell ⟨b,o,none⟩ v)).trans (by simp [World.setCell])
theorem ValsAt.push {w : World} {F : Nat -> Prop} {g tot : Nat} {vs : List VM} {v : VM} {cs : List Value} (h : ValsAt w F g tot vs) (hlt : vs.length < tot) (hv : ValC w F v cs) : ValsAt (w.setCells g (vs.length * 10) cs) F g tot (vs ++ [v]) := by
 have hF : ∀ b,F b -> b < w.heap.size -> F b /\ (w.setCells g (vs.length * 10) cs).heap[b]? = w.heap[b]? := fun b hb _ => ⟨hb,qbE g b (fun e => h.out (e ▸ hb)) _ _ _⟩
 have hl := hv.ten.1
 refine ⟨by rw [qdV];exact h.lt,h.out,World.there_setCells h.there _ _ _,by simp;omega,fun j u hj => ?_⟩
 rcases Nat.lt_or_ge j vs.length with hj1 | hj1
 . rw [List.getElem?_append_left hj1] at hj
   obtain ⟨cs',hc,hr⟩ := h.val j u hj
   exact ⟨cs',hc.mono hF,World.rangeAt_setCells_apart hr _ _ _ (.inr (.inl (by rw [hc.ten.1];omega)))⟩
 . obtain rfl : j = vs.length := by have := (List.getElem?_eq_some_iff.1 hj).1;simp at this;omega
   rw [List.getElem?_append_right (Nat.le_refl _),Nat.sub_self] at hj
   injection hj with hj
   subst hj
   refine ⟨cs,hv.mono hF,World.rangeAt_setCells_same _ _ _ _ fun i hi => ?_⟩
   have := h.there (vs.length * 10 + i) (by omega)
   rw [show 0 + (vs.length * 10 + i) = vs.length * 10 + i by omega] at this
   exact this
end Go.Proofs.YtaddcadapbpkfaaGreatDoor
