/-
  DERIVED. GIVEN WITH THE SEED: THE CARDS: each row of YtbjagceopgofiaaDoorRows.lean that lists a variable, with what it lists TIED to the program's text (the seventh form; the later family's looks); each row that meets fmt, with fmt's text TOLD by the authors' own Lean function (tested against real Go, not proved from fmt's source: count such statements apart). THE CARD IS WHAT COUNTS. Prove the row's statement (the work); the ties are given (YtbjagceopgofiaaDoorTie.lean); close each card by the builder's one call (the guide's Derived/Test/ToyasCard.lean, 'card_holds'). Laid BY PROGRAM, IN A SANDBOX (cutbox-door.mjs). By AI agents, Wed Nov 11 2026. No macro, syntax, notation, axiom, sorry.
-/
import Derived.Test.YtbjagceopgofiaaDoorRows
import GoSem.ClaimSeven
namespace Go.Proofs.YtbjagceopgofiaaDoor
namespace Rows

/-- THE TIED CARD OF 'codewrightlaw21.LangParses'. -/
def langParsesCard : Claim7 := { stood := { row := langParsesRow, standIns := [], harness := (true, "06ac9355a4bd07b2e7d54a17451cb4b19ba3766dd8c0a16f9dec296018f9d28d"), looks := true }, kinds := [], alts := [], laidByText := true, laidKinds := [.data, .data, .data], laidTests := true, laidLooks := .later }
def LangParsesCardSaid : Prop := Claim7.holds Tryd.pinned (.plain (OpenSpec.ofChange langParsesSpec)) langParsesCard

/-- THE TIED CARD OF 'codewrightlaw21.LangChecks'. -/
def langChecksCard : Claim7 := { stood := { row := langChecksRow, standIns := [], harness := (true, "06ac9355a4bd07b2e7d54a17451cb4b19ba3766dd8c0a16f9dec296018f9d28d"), looks := true }, kinds := [], alts := [], laidByText := true, laidKinds := [.data, .data, .data], laidTests := true, laidLooks := .later }
def LangChecksCardSaid : Prop := Claim7.holds Tryd.pinned (.plain (OpenSpec.ofChange langChecksSpec)) langChecksCard

/-- THE TIED CARD OF 'codewrightlaw21.LangFormats'. -/
def langFormatsCard : Claim7 := { stood := { row := langFormatsRow, standIns := [], harness := (true, "06ac9355a4bd07b2e7d54a17451cb4b19ba3766dd8c0a16f9dec296018f9d28d"), looks := true }, kinds := [], alts := [], laidByText := true, laidKinds := [.data, .data, .data], laidTests := true, laidLooks := .later }
def LangFormatsCardSaid : Prop := Claim7.holds Tryd.pinned (.plain (OpenSpec.ofChange langFormatsSpec)) langFormatsCard

/-- THE TIED CARD OF 'codewrightlaw21.LangBack'. -/
def langBackCard : Claim7 := { stood := { row := langBackRow, standIns := [], harness := (true, "06ac9355a4bd07b2e7d54a17451cb4b19ba3766dd8c0a16f9dec296018f9d28d"), looks := true }, kinds := [], alts := [], laidByText := true, laidKinds := [.data, .data, .data], laidTests := true, laidLooks := .later }
def LangBackCardSaid : Prop := Claim7.holds Tryd.pinned (.plain (OpenSpec.ofChange langBackSpec)) langBackCard

/-- THE TIED CARD OF 'codewrightlaw21.LangAgain'. -/
def langAgainCard : Claim7 := { stood := { row := langAgainRow, standIns := [], harness := (true, "06ac9355a4bd07b2e7d54a17451cb4b19ba3766dd8c0a16f9dec296018f9d28d"), looks := true }, kinds := [], alts := [], laidByText := true, laidKinds := [.data, .data, .data], laidTests := true, laidLooks := .later }
def LangAgainCardSaid : Prop := Claim7.holds Tryd.pinned (.plain (OpenSpec.ofChange langAgainSpec)) langAgainCard

/-- THE TIED CARD OF 'codewrightlaw21.LangBlanks'. -/
def langBlanksCard : Claim7 := { stood := { row := langBlanksRow, standIns := [], harness := (true, "06ac9355a4bd07b2e7d54a17451cb4b19ba3766dd8c0a16f9dec296018f9d28d"), looks := true }, kinds := [], alts := [], laidByText := true, laidKinds := [.data, .data, .data], laidTests := true, laidLooks := .later }
def LangBlanksCardSaid : Prop := Claim7.holds Tryd.pinned (.plain (OpenSpec.ofChange langBlanksSpec)) langBlanksCard

/-- THE TIED CARD OF 'codewrightlaw21.LangOffsets'. -/
def langOffsetsCard : Claim7 := { stood := { row := langOffsetsRow, standIns := [], harness := (true, "06ac9355a4bd07b2e7d54a17451cb4b19ba3766dd8c0a16f9dec296018f9d28d"), looks := true }, kinds := [], alts := [], laidByText := true, laidKinds := [.data, .data, .data], laidTests := true, laidLooks := .later }
def LangOffsetsCardSaid : Prop := Claim7.holds Tryd.pinned (.plain (OpenSpec.ofChange langOffsetsSpec)) langOffsetsCard

/-- THE TIED CARD OF 'codewrightlaw21.LangSizes'. -/
def langSizesCard : Claim7 := { stood := { row := langSizesRow, standIns := [], harness := (true, "06ac9355a4bd07b2e7d54a17451cb4b19ba3766dd8c0a16f9dec296018f9d28d"), looks := true }, kinds := [], alts := [], laidByText := true, laidKinds := [.data, .data, .data], laidTests := true, laidLooks := .later }
def LangSizesCardSaid : Prop := Claim7.holds Tryd.pinned (.plain (OpenSpec.ofChange langSizesSpec)) langSizesCard

/-- THE TIED CARD OF 'codewrightlaw21.LangTokens'. -/
def langTokensCard : Claim7 := { stood := { row := langTokensRow, standIns := [], harness := (true, "06ac9355a4bd07b2e7d54a17451cb4b19ba3766dd8c0a16f9dec296018f9d28d"), looks := true }, kinds := [], alts := [], laidByText := true, laidKinds := [.data, .data, .data], laidTests := true, laidLooks := .later }
def LangTokensCardSaid : Prop := Claim7.holds Tryd.pinned (.plain (OpenSpec.ofChange langTokensSpec)) langTokensCard

/-- THE SECOND FORM's CARD OF 'codewrightlaw21.LangParses'. -/
def langParsesUptoCard : Claim7 := { stood := { row := langParsesUptoRow, standIns := [], harness := (true, "06ac9355a4bd07b2e7d54a17451cb4b19ba3766dd8c0a16f9dec296018f9d28d"), looks := true }, kinds := [], alts := [], laidByText := true, laidKinds := [.data, .data, .data], laidTests := true, laidLooks := .later }
def LangParsesUptoCardSaid : Prop := Claim7.holds Tryd.pinned (.plain (OpenSpec.upto langParsesSpec)) langParsesUptoCard

/-- THE SECOND FORM's CARD OF 'codewrightlaw21.LangChecks'. -/
def langChecksUptoCard : Claim7 := { stood := { row := langChecksUptoRow, standIns := [], harness := (true, "06ac9355a4bd07b2e7d54a17451cb4b19ba3766dd8c0a16f9dec296018f9d28d"), looks := true }, kinds := [], alts := [], laidByText := true, laidKinds := [.data, .data, .data], laidTests := true, laidLooks := .later }
def LangChecksUptoCardSaid : Prop := Claim7.holds Tryd.pinned (.plain (OpenSpec.upto langChecksSpec)) langChecksUptoCard

/-- THE SECOND FORM's CARD OF 'codewrightlaw21.LangFormats'. -/
def langFormatsUptoCard : Claim7 := { stood := { row := langFormatsUptoRow, standIns := [], harness := (true, "06ac9355a4bd07b2e7d54a17451cb4b19ba3766dd8c0a16f9dec296018f9d28d"), looks := true }, kinds := [], alts := [], laidByText := true, laidKinds := [.data, .data, .data], laidTests := true, laidLooks := .later }
def LangFormatsUptoCardSaid : Prop := Claim7.holds Tryd.pinned (.plain (OpenSpec.upto langFormatsSpec)) langFormatsUptoCard

/-- THE SECOND FORM's CARD OF 'codewrightlaw21.LangBack'. -/
def langBackUptoCard : Claim7 := { stood := { row := langBackUptoRow, standIns := [], harness := (true, "06ac9355a4bd07b2e7d54a17451cb4b19ba3766dd8c0a16f9dec296018f9d28d"), looks := true }, kinds := [], alts := [], laidByText := true, laidKinds := [.data, .data, .data], laidTests := true, laidLooks := .later }
def LangBackUptoCardSaid : Prop := Claim7.holds Tryd.pinned (.plain (OpenSpec.upto langBackSpec)) langBackUptoCard

/-- THE SECOND FORM's CARD OF 'codewrightlaw21.LangAgain'. -/
def langAgainUptoCard : Claim7 := { stood := { row := langAgainUptoRow, standIns := [], harness := (true, "06ac9355a4bd07b2e7d54a17451cb4b19ba3766dd8c0a16f9dec296018f9d28d"), looks := true }, kinds := [], alts := [], laidByText := true, laidKinds := [.data, .data, .data], laidTests := true, laidLooks := .later }
def LangAgainUptoCardSaid : Prop := Claim7.holds Tryd.pinned (.plain (OpenSpec.upto langAgainSpec)) langAgainUptoCard

/-- THE SECOND FORM's CARD OF 'codewrightlaw21.LangBlanks'. -/
def langBlanksUptoCard : Claim7 := { stood := { row := langBlanksUptoRow, standIns := [], harness := (true, "06ac9355a4bd07b2e7d54a17451cb4b19ba3766dd8c0a16f9dec296018f9d28d"), looks := true }, kinds := [], alts := [], laidByText := true, laidKinds := [.data, .data, .data], laidTests := true, laidLooks := .later }
def LangBlanksUptoCardSaid : Prop := Claim7.holds Tryd.pinned (.plain (OpenSpec.upto langBlanksSpec)) langBlanksUptoCard

/-- THE SECOND FORM's CARD OF 'codewrightlaw21.LangOffsets'. -/
def langOffsetsUptoCard : Claim7 := { stood := { row := langOffsetsUptoRow, standIns := [], harness := (true, "06ac9355a4bd07b2e7d54a17451cb4b19ba3766dd8c0a16f9dec296018f9d28d"), looks := true }, kinds := [], alts := [], laidByText := true, laidKinds := [.data, .data, .data], laidTests := true, laidLooks := .later }
def LangOffsetsUptoCardSaid : Prop := Claim7.holds Tryd.pinned (.plain (OpenSpec.upto langOffsetsSpec)) langOffsetsUptoCard

/-- THE SECOND FORM's CARD OF 'codewrightlaw21.LangSizes'. -/
def langSizesUptoCard : Claim7 := { stood := { row := langSizesUptoRow, standIns := [], harness := (true, "06ac9355a4bd07b2e7d54a17451cb4b19ba3766dd8c0a16f9dec296018f9d28d"), looks := true }, kinds := [], alts := [], laidByText := true, laidKinds := [.data, .data, .data], laidTests := true, laidLooks := .later }
def LangSizesUptoCardSaid : Prop := Claim7.holds Tryd.pinned (.plain (OpenSpec.upto langSizesSpec)) langSizesUptoCard

/-- THE SECOND FORM's CARD OF 'codewrightlaw21.LangTokens'. -/
def langTokensUptoCard : Claim7 := { stood := { row := langTokensUptoRow, standIns := [], harness := (true, "06ac9355a4bd07b2e7d54a17451cb4b19ba3766dd8c0a16f9dec296018f9d28d"), looks := true }, kinds := [], alts := [], laidByText := true, laidKinds := [.data, .data, .data], laidTests := true, laidLooks := .later }
def LangTokensUptoCardSaid : Prop := Claim7.holds Tryd.pinned (.plain (OpenSpec.upto langTokensSpec)) langTokensUptoCard
end Rows
end Go.Proofs.YtbjagceopgofiaaDoor
