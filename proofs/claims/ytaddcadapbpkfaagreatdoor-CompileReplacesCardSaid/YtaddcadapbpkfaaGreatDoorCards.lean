/-
  DERIVED. GIVEN WITH THE SEED: THE CARDS: each row of YtaddcadapbpkfaaGreatDoorRows.lean that lists a variable, with what it lists TIED to the program's text (the seventh form; the later family's looks); each row that meets fmt, with fmt's text TOLD by the authors' own Lean function (tested against real Go, not proved from fmt's source: count such statements apart). THE CARD IS WHAT COUNTS. Prove the row's statement (the work); the ties are given (YtaddcadapbpkfaaGreatDoorTie.lean); close each card by the builder's one call (the guide's Derived/Test/ToyasCard.lean, 'card_holds'). Laid BY PROGRAM, IN A SANDBOX (cutbox-door.mjs). By AI agents, Wed Nov 11 2026. No macro, syntax, notation, axiom, sorry.
-/
import Derived.Test.YtaddcadapbpkfaaGreatDoorRows
import GoSem.ClaimSeven
namespace Go.Proofs.YtaddcadapbpkfaaGreatDoor
namespace Rows

/-- THE TIED CARD OF 'codewrightlaw22.CompileFields'. -/
def compileFieldsCard : Claim7 := { stood := { row := compileFieldsRow, standIns := [], harness := (true, "affcce82f7195f62f6c02d0efe1649b2628327178f2d2c5a758ce67aa7658f09"), looks := false }, kinds := [], alts := [], laidByText := true, laidKinds := [.data, .data, .data], laidTests := true, laidLooks := .later }
def CompileFieldsCardSaid : Prop := Claim7.holds Tryz.pinned (.plain (OpenSpec.ofChange compileFieldsSpec)) compileFieldsCard

/-- THE TIED CARD OF 'codewrightlaw22.CompileReplaces'. -/
def compileReplacesCard : Claim7 := { stood := { row := compileReplacesRow, standIns := [], harness := (true, "affcce82f7195f62f6c02d0efe1649b2628327178f2d2c5a758ce67aa7658f09"), looks := false }, kinds := [], alts := [], laidByText := true, laidKinds := [.data, .data, .data], laidTests := true, laidLooks := .later }
def CompileReplacesCardSaid : Prop := Claim7.holds Tryz.pinned (.plain (OpenSpec.ofChange compileReplacesSpec)) compileReplacesCard

/-- THE SECOND FORM's CARD OF 'codewrightlaw22.CompileFields'. -/
def compileFieldsUptoCard : Claim7 := { stood := { row := compileFieldsUptoRow, standIns := [], harness := (true, "affcce82f7195f62f6c02d0efe1649b2628327178f2d2c5a758ce67aa7658f09"), looks := false }, kinds := [], alts := [], laidByText := true, laidKinds := [.data, .data, .data], laidTests := true, laidLooks := .later }
def CompileFieldsUptoCardSaid : Prop := Claim7.holds Tryz.pinned (.plain (OpenSpec.upto compileFieldsSpec)) compileFieldsUptoCard

/-- THE SECOND FORM's CARD OF 'codewrightlaw22.CompileReplaces'. -/
def compileReplacesUptoCard : Claim7 := { stood := { row := compileReplacesUptoRow, standIns := [], harness := (true, "affcce82f7195f62f6c02d0efe1649b2628327178f2d2c5a758ce67aa7658f09"), looks := false }, kinds := [], alts := [], laidByText := true, laidKinds := [.data, .data, .data], laidTests := true, laidLooks := .later }
def CompileReplacesUptoCardSaid : Prop := Claim7.holds Tryz.pinned (.plain (OpenSpec.upto compileReplacesSpec)) compileReplacesUptoCard
end Rows
end Go.Proofs.YtaddcadapbpkfaaGreatDoor
