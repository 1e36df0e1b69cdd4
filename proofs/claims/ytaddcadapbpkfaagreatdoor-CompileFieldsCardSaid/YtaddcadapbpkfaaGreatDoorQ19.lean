/-
  The table's names; the standard field of an order; the field that an expression means: plain definitions.
-/
import Derived.Test.YtaddcadapbpkfaaGreatDoorQ09
namespace Go.Proofs.YtaddcadapbpkfaaGreatDoor

def gfN : List UInt8 := [103,102]
def famN : List (List UInt8) := [[122,101,114,111],[119,104,111,108,101],[109,97,116,114,105,120],[114,101,112],[112,97,114,105,116,121],[104,97,109,109,105,110,103],[115,105,109,112,108,101,120],[114,109],[114,101,115,105,100,117,101],[103,111,108,97,121]]
def algN : List (List UInt8) := [[99,121,99,108,105,99],[98,99,104],[114,115],[103,114,115],[97,108,116,101,114,110,97,110,116],[103,111,112,112,97]]
def modN : List (List UInt8) := [[100,117,97,108],[104,117,108,108],[112,117,110,99,116,117,114,101],[115,104,111,114,116,101,110],[115,117,98,99,111,100,101],[112,101,114,109,117,116,101],[101,120,112,117,114,103,97,116,101],[97,117,103,109,101,110,116],[101,120,116,101,110,100],[115,117,98,102,105,101,108,100],[116,114,97,99,101],[108,105,102,116],[105,110,116,101,114,108,101,97,118,101]]
def comN : List (List UInt8) := [[106,111,105,110],[109,101,101,116],[115,117,109],[112,108,111,116,107,105,110],[106,117,120,116,97,112,111,115,101],[112,114,111,100,117,99,116],[99,111,110,99,97,116],[120]]

structure FR where
  e : Int
  p : Int
  m : Int
  mod : List Int
def FR.err (e : Int) : FR := ⟨e,0,0,[]⟩
def pGo (q p : Nat) : Nat -> Nat
  | 0 => p
  | f + 1 => if q % p = 0 then p else pGo q (p + 1) f
def pM (q : Nat) : Nat := pGo q 2 256
def mGo (q p m : Nat) : Nat -> Nat
  | 0 => m
  | f + 1 => if orderM (p : Int) (m : Int) < (q : Int) /\ m < 8 then mGo q p (m + 1) f else m
def mM (q p : Nat) : Nat := mGo q p 1 8
def vGo (p m v : Nat) : Nat -> FR
  | 0 => .err 6
  | f + 1 => if fieldOK (p : Int) (m : Int) (nz (Pln.digs p m v)) = true then ⟨0,p,m,nz (Pln.digs p m v)⟩ else vGo p m (v + 1) f
def stdN (q : Nat) : FR :=
  if orderM (pM q : Int) (mM q (pM q) : Int) = (q : Int) then (if mM q (pM q) = 1 then ⟨0,pM q,1,[]⟩ else vGo (pM q) (mM q (pM q)) 0 q) else .err 6
def stdM (q : Int) : FR := if q < 2 \/ 256 < q then .err 6 else stdN q.toNat
theorem stdM_out {q : Int} (h : q < 2 \/ 256 < q) : stdM q = .err 6 := by unfold stdM;rw [if_pos h]
theorem stdM_in {q : Nat} (h1 : 2 <= q) (h2 : q <= 256) : stdM (q : Int) = stdN q := by unfold stdM;rw [if_neg (by omega),Int.toNat_natCast]
theorem pGo_step {q p f : Nat} (h : ¬ q % p = 0) : pGo q p (f + 1) = pGo q (p + 1) f := by conv => lhs;unfold pGo;rw [if_neg h]
theorem pGo_stop {q p f : Nat} (h : q % p = 0) : pGo q p f = p := by cases f with | zero => rfl | succ f => unfold pGo;rw [if_pos h]
theorem mGo_step {q p m f : Nat} (h : orderM (p : Int) (m : Int) < (q : Int) /\ m < 8) : mGo q p m (f + 1) = mGo q p (m + 1) f := by conv => lhs;unfold mGo;rw [if_pos h]
theorem mGo_stop {q p m f : Nat} (h : ¬ (orderM (p : Int) (m : Int) < (q : Int) /\ m < 8)) : mGo q p m f = m := by cases f with | zero => rfl | succ f => unfold mGo;rw [if_neg h]
theorem vGo_step {p m v f : Nat} (h : fieldOK (p : Int) (m : Int) (nz (Pln.digs p m v)) = false) : vGo p m v (f + 1) = vGo p m (v + 1) f := by conv => lhs;unfold vGo;rw [if_neg (by rw [h];exact Bool.false_ne_true)]
theorem vGo_stop {p m v f : Nat} (h : fieldOK (p : Int) (m : Int) (nz (Pln.digs p m v)) = true) : vGo p m v (f + 1) = ⟨0,p,m,nz (Pln.digs p m v)⟩ := by unfold vGo;rw [if_pos h]
theorem std8 : stdM 8 = ⟨0,2,3,[1,1,0]⟩ := by kernel_rfl
end Go.Proofs.YtaddcadapbpkfaaGreatDoor

