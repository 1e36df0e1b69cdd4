/-
  The numbers of the example: the code of length 7 over the field of 8 elements, and its shortened code.
-/
import Derived.Test.YtaddcadapbpkfaaGreatDoorQ43
namespace Go.Proofs.YtaddcadapbpkfaaGreatDoor
open Go.RowKit Pln

def md8 : List Int := [1,1,0]
def O8 : Ops := opsT 2 3 (lOf 2 3 md8)
def rs8 : List (List Nat) := canonM O8 (genG O8 (List.replicate 7 1) (List.range 7) 3) 7
def sup8 : List (List Nat) := supM O8 rs8 0 7
def fs8 : List Nat := freeC [0] 7
def sh8 : List (List Nat) := canonM O8 (colsM sup8 fs8) 6
theorem ok8 : fieldOK 2 3 md8 = true := by kernel_rfl
theorem e8g : errC 2 3 md8 7 (nzs (genG O8 (List.replicate 7 1) (List.range 7) 3)) = 0 := by kernel_rfl
theorem rs8_v : rs8.length = 3 := by kernel_rfl
theorem q8 : freeC fs8 7 = [0] := by kernel_rfl
theorem z8 : codeZ 2 3 md8 7 (nzs rs8) = 0 := by kernel_rfl
theorem sp8 : spZ 2 3 md8 7 (nzs rs8) = 0 := by kernel_rfl
theorem e80 : errC 2 3 md8 7 (nzs rs8) = 0 := by kernel_rfl
theorem e81 : errC 2 3 md8 1 (nzs (colsM rs8 [0])) = 0 := by kernel_rfl
theorem e82 : errC 2 3 md8 3 (nzs [rs8.map fun r => r.getD 0 0]) = 0 := by kernel_rfl
theorem e83 : errC 2 3 md8 3 (nzs (kerM O8 [rs8.map fun r => r.getD 0 0] 3)) = 0 := by kernel_rfl
theorem e84 : errC 2 3 md8 7 (nzs (mulMat O8 (kerM O8 [rs8.map fun r => r.getD 0 0] 3) rs8 7)) = 0 := by kernel_rfl
theorem e85 : errC 2 3 md8 7 (nzs sup8) = 0 := by kernel_rfl
theorem e86 : errC 2 3 md8 6 (nzs (colsM sup8 fs8)) = 0 := by kernel_rfl
theorem sh8_v : sh8.length = 2 := by kernel_rfl
end Go.Proofs.YtaddcadapbpkfaaGreatDoor

