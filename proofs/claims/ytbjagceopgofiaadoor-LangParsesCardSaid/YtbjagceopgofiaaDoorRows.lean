/-
  NARROWER THAN 'FOR EVERY INPUT', by the rows' own cells (each row's printed sentence says how): LangParses: laid · LangChecks: loops, laid · LangFormats: loops, laid · LangBack: loops, laid · LangAgain: laid · LangBlanks: laid · LangOffsets: laid · LangSizes: loops, laid · LangTokens: laid.
  DERIVED. THE GIVEN ROWS OF THIS SEAT. 9 by the template 'for every input the law returns true; each argument reads behind the call as it read before'; 0 by the template 'total and deterministic' (their statements: YtbjagceopgofiaaDoorTotals.lean).
  GIVEN WITH THE SEED: the statements are not yours to turn. If you find one false, say at which input.
  Laid BY PROGRAM, IN A SANDBOX (cutbox-rows.mjs): the forced cells as the released guide's own fill.sh prints them over the translation a8d65add86f1fcb9… (all of the seat's roots in one cut). By AI agents, Wed Nov 11 2026. No macro, syntax, notation, axiom, sorry.
-/
import Derived.Test.YtbjagceopgofiaaDoorChecked
import GoSem.Claim
import GoSem.ClaimJoined
import GoSem.ClaimMapViews
import Derived.JoinedTies
import Derived.KernelRfl
namespace Go.Proofs.YtbjagceopgofiaaDoor
/- THE CELL 'sum', in the pinned program and in every row, IS THE sha256 OF THE DUMP (.gsa) THAT YtbjagceopgofiaaDoorProg.lean LOADS. Nothing in Lean hashes anything: it is a label: what it is worth is what the hold of that sum in a sandbox is worth. -/
noncomputable def Tryd.pinned : Pinned := { name := "ytbjagceopgofiaadoor", sum := "a8d65add86f1fcb9fda3aac6607852b45ad4fcc6c36cd0cdb8c7a8f0e487843e", checked := Tryd.checked }
namespace Rows
def none {H : Type} : Left H := { results := [], args := [] }

/- WHAT THE LISTED PACKAGE-LEVEL VARIABLES READ AS WHEN THE CALL BEGINS. Each datum BY PROGRAM (the guide's laid-datum.mjs) off the statement by which the dump's own 'gosem.cut.vars' lays the variable. In a bare row this is a premise. The card (YtbjagceopgofiaaDoorCards.lean) ties it to the program's text. -/
def laid_math_bits_deBruijn32tab {H : Type} : DataW H := .agg [.lit (.int .u8 0), .lit (.int .u8 1), .lit (.int .u8 28), .lit (.int .u8 2), .lit (.int .u8 29), .lit (.int .u8 14), .lit (.int .u8 24), .lit (.int .u8 3), .lit (.int .u8 30), .lit (.int .u8 22), .lit (.int .u8 20), .lit (.int .u8 15), .lit (.int .u8 25), .lit (.int .u8 17), .lit (.int .u8 4), .lit (.int .u8 8), .lit (.int .u8 31), .lit (.int .u8 27), .lit (.int .u8 13), .lit (.int .u8 23), .lit (.int .u8 21), .lit (.int .u8 19), .lit (.int .u8 16), .lit (.int .u8 7), .lit (.int .u8 26), .lit (.int .u8 12), .lit (.int .u8 18), .lit (.int .u8 6), .lit (.int .u8 11), .lit (.int .u8 5), .lit (.int .u8 10), .lit (.int .u8 9)]
def laid_math_bits_deBruijn64tab {H : Type} : DataW H := .agg [.lit (.int .u8 0), .lit (.int .u8 1), .lit (.int .u8 56), .lit (.int .u8 2), .lit (.int .u8 57), .lit (.int .u8 49), .lit (.int .u8 28), .lit (.int .u8 3), .lit (.int .u8 61), .lit (.int .u8 58), .lit (.int .u8 42), .lit (.int .u8 50), .lit (.int .u8 38), .lit (.int .u8 29), .lit (.int .u8 17), .lit (.int .u8 4), .lit (.int .u8 62), .lit (.int .u8 47), .lit (.int .u8 59), .lit (.int .u8 36), .lit (.int .u8 45), .lit (.int .u8 43), .lit (.int .u8 51), .lit (.int .u8 22), .lit (.int .u8 53), .lit (.int .u8 39), .lit (.int .u8 33), .lit (.int .u8 30), .lit (.int .u8 24), .lit (.int .u8 18), .lit (.int .u8 12), .lit (.int .u8 5), .lit (.int .u8 63), .lit (.int .u8 55), .lit (.int .u8 48), .lit (.int .u8 27), .lit (.int .u8 60), .lit (.int .u8 41), .lit (.int .u8 37), .lit (.int .u8 16), .lit (.int .u8 46), .lit (.int .u8 35), .lit (.int .u8 44), .lit (.int .u8 21), .lit (.int .u8 52), .lit (.int .u8 32), .lit (.int .u8 23), .lit (.int .u8 11), .lit (.int .u8 54), .lit (.int .u8 26), .lit (.int .u8 40), .lit (.int .u8 15), .lit (.int .u8 34), .lit (.int .u8 20), .lit (.int .u8 31), .lit (.int .u8 10), .lit (.int .u8 25), .lit (.int .u8 14), .lit (.int .u8 19), .lit (.int .u8 9), .lit (.int .u8 13), .lit (.int .u8 8), .lit (.int .u8 7), .lit (.int .u8 6)]
def laid_internal_strconv_uint64pow10 {H : Type} : DataW H := .agg [.lit (.int .u64 1), .lit (.int .u64 10), .lit (.int .u64 100), .lit (.int .u64 1000), .lit (.int .u64 10000), .lit (.int .u64 100000), .lit (.int .u64 1000000), .lit (.int .u64 10000000), .lit (.int .u64 100000000), .lit (.int .u64 1000000000), .lit (.int .u64 10000000000), .lit (.int .u64 100000000000), .lit (.int .u64 1000000000000), .lit (.int .u64 10000000000000), .lit (.int .u64 100000000000000), .lit (.int .u64 1000000000000000), .lit (.int .u64 10000000000000000), .lit (.int .u64 100000000000000000), .lit (.int .u64 1000000000000000000), .lit (.int .u64 10000000000000000000)]

/-- 'codewrightlaw21.LangParses': WHATEVER THE INPUT: true; the input reads as it did. -/
def langParsesSpec : ChangeSpec := { name := "langParses", fn := fun _ => fun
  | [d] => { results := [.lit (.bool true)], args := [d] }
  | _ => none }
def langParsesRow : OpenClaim := { program := "ytbjagceopgofiaadoor", sum := "a8d65add86f1fcb9fda3aac6607852b45ad4fcc6c36cd0cdb8c7a8f0e487843e", func := "codewright/codewrightlaw21.LangParses", spec := "langParses", inPlace := ["internal/bytealg.IndexByteString", "internal/abi.NoEscape"], unfollowed := true, recurses := true, named := ["internal/strconv.uint64pow10", "math/bits.deBruijn32tab", "math/bits.deBruijn64tab"], apart := false, laid := [("math/bits.deBruijn32tab", laid_math_bits_deBruijn32tab), ("math/bits.deBruijn64tab", laid_math_bits_deBruijn64tab), ("internal/strconv.uint64pow10", laid_internal_strconv_uint64pow10)] }
def LangParsesSaid : Prop := langParsesRow.holds Tryd.pinned (OpenSpec.ofChange langParsesSpec)

/-- ITS FALSE NEIGHBOUR: 'it returns false'. Refute it at one input. -/
def langParsesWrong : ChangeSpec := { name := "langParses", fn := fun _ => fun
  | [d] => { results := [.lit (.bool false)], args := [d] }
  | _ => none }
def LangParsesWrongFalsely : Prop := langParsesRow.holds Tryd.pinned (OpenSpec.ofChange langParsesWrong)

/-- 'codewrightlaw21.LangChecks': WHATEVER THE INPUT: true; the input reads as it did. -/
def langChecksSpec : ChangeSpec := { name := "langChecks", fn := fun _ => fun
  | [d] => { results := [.lit (.bool true)], args := [d] }
  | _ => none }
def langChecksRow : OpenClaim := { program := "ytbjagceopgofiaadoor", sum := "a8d65add86f1fcb9fda3aac6607852b45ad4fcc6c36cd0cdb8c7a8f0e487843e", func := "codewright/codewrightlaw21.LangChecks", spec := "langChecks", inPlace := ["internal/bytealg.IndexByteString", "internal/abi.NoEscape"], unfollowed := true, recurses := true, named := ["internal/strconv.uint64pow10", "math/bits.deBruijn32tab", "math/bits.deBruijn64tab"], loops := true, apart := false, laid := [("math/bits.deBruijn32tab", laid_math_bits_deBruijn32tab), ("math/bits.deBruijn64tab", laid_math_bits_deBruijn64tab), ("internal/strconv.uint64pow10", laid_internal_strconv_uint64pow10)] }
def LangChecksSaid : Prop := langChecksRow.holds Tryd.pinned (OpenSpec.ofChange langChecksSpec)

/-- ITS FALSE NEIGHBOUR: 'it returns false'. Refute it at one input. -/
def langChecksWrong : ChangeSpec := { name := "langChecks", fn := fun _ => fun
  | [d] => { results := [.lit (.bool false)], args := [d] }
  | _ => none }
def LangChecksWrongFalsely : Prop := langChecksRow.holds Tryd.pinned (OpenSpec.ofChange langChecksWrong)

/-- 'codewrightlaw21.LangFormats': WHATEVER THE INPUT: true; the input reads as it did. -/
def langFormatsSpec : ChangeSpec := { name := "langFormats", fn := fun _ => fun
  | [d] => { results := [.lit (.bool true)], args := [d] }
  | _ => none }
def langFormatsRow : OpenClaim := { program := "ytbjagceopgofiaadoor", sum := "a8d65add86f1fcb9fda3aac6607852b45ad4fcc6c36cd0cdb8c7a8f0e487843e", func := "codewright/codewrightlaw21.LangFormats", spec := "langFormats", inPlace := ["internal/bytealg.IndexByteString", "internal/abi.NoEscape"], unfollowed := true, recurses := true, named := ["internal/strconv.uint64pow10", "math/bits.deBruijn32tab", "math/bits.deBruijn64tab"], loops := true, apart := false, laid := [("math/bits.deBruijn32tab", laid_math_bits_deBruijn32tab), ("math/bits.deBruijn64tab", laid_math_bits_deBruijn64tab), ("internal/strconv.uint64pow10", laid_internal_strconv_uint64pow10)] }
def LangFormatsSaid : Prop := langFormatsRow.holds Tryd.pinned (OpenSpec.ofChange langFormatsSpec)

/-- ITS FALSE NEIGHBOUR: 'it returns false'. Refute it at one input. -/
def langFormatsWrong : ChangeSpec := { name := "langFormats", fn := fun _ => fun
  | [d] => { results := [.lit (.bool false)], args := [d] }
  | _ => none }
def LangFormatsWrongFalsely : Prop := langFormatsRow.holds Tryd.pinned (OpenSpec.ofChange langFormatsWrong)

/-- 'codewrightlaw21.LangBack': WHATEVER THE INPUT: true; the input reads as it did. -/
def langBackSpec : ChangeSpec := { name := "langBack", fn := fun _ => fun
  | [d] => { results := [.lit (.bool true)], args := [d] }
  | _ => none }
def langBackRow : OpenClaim := { program := "ytbjagceopgofiaadoor", sum := "a8d65add86f1fcb9fda3aac6607852b45ad4fcc6c36cd0cdb8c7a8f0e487843e", func := "codewright/codewrightlaw21.LangBack", spec := "langBack", inPlace := ["internal/bytealg.IndexByteString", "internal/abi.NoEscape"], unfollowed := true, recurses := true, named := ["internal/strconv.uint64pow10", "math/bits.deBruijn32tab", "math/bits.deBruijn64tab"], loops := true, apart := false, laid := [("math/bits.deBruijn32tab", laid_math_bits_deBruijn32tab), ("math/bits.deBruijn64tab", laid_math_bits_deBruijn64tab), ("internal/strconv.uint64pow10", laid_internal_strconv_uint64pow10)] }
def LangBackSaid : Prop := langBackRow.holds Tryd.pinned (OpenSpec.ofChange langBackSpec)

/-- ITS FALSE NEIGHBOUR: 'it returns false'. Refute it at one input. -/
def langBackWrong : ChangeSpec := { name := "langBack", fn := fun _ => fun
  | [d] => { results := [.lit (.bool false)], args := [d] }
  | _ => none }
def LangBackWrongFalsely : Prop := langBackRow.holds Tryd.pinned (OpenSpec.ofChange langBackWrong)

/-- 'codewrightlaw21.LangAgain': WHATEVER THE INPUT: true; the input reads as it did. -/
def langAgainSpec : ChangeSpec := { name := "langAgain", fn := fun _ => fun
  | [d] => { results := [.lit (.bool true)], args := [d] }
  | _ => none }
def langAgainRow : OpenClaim := { program := "ytbjagceopgofiaadoor", sum := "a8d65add86f1fcb9fda3aac6607852b45ad4fcc6c36cd0cdb8c7a8f0e487843e", func := "codewright/codewrightlaw21.LangAgain", spec := "langAgain", inPlace := ["internal/bytealg.IndexByteString", "internal/abi.NoEscape"], unfollowed := true, recurses := true, named := ["internal/strconv.uint64pow10", "math/bits.deBruijn32tab", "math/bits.deBruijn64tab"], apart := false, laid := [("math/bits.deBruijn32tab", laid_math_bits_deBruijn32tab), ("math/bits.deBruijn64tab", laid_math_bits_deBruijn64tab), ("internal/strconv.uint64pow10", laid_internal_strconv_uint64pow10)] }
def LangAgainSaid : Prop := langAgainRow.holds Tryd.pinned (OpenSpec.ofChange langAgainSpec)

/-- ITS FALSE NEIGHBOUR: 'it returns false'. Refute it at one input. -/
def langAgainWrong : ChangeSpec := { name := "langAgain", fn := fun _ => fun
  | [d] => { results := [.lit (.bool false)], args := [d] }
  | _ => none }
def LangAgainWrongFalsely : Prop := langAgainRow.holds Tryd.pinned (OpenSpec.ofChange langAgainWrong)

/-- 'codewrightlaw21.LangBlanks': WHATEVER THE INPUT: true; the input reads as it did. -/
def langBlanksSpec : ChangeSpec := { name := "langBlanks", fn := fun _ => fun
  | [d1, d2] => { results := [.lit (.bool true)], args := [d1, d2] }
  | _ => none }
def langBlanksRow : OpenClaim := { program := "ytbjagceopgofiaadoor", sum := "a8d65add86f1fcb9fda3aac6607852b45ad4fcc6c36cd0cdb8c7a8f0e487843e", func := "codewright/codewrightlaw21.LangBlanks", spec := "langBlanks", inPlace := ["internal/bytealg.IndexByteString", "internal/abi.NoEscape"], unfollowed := true, recurses := true, named := ["internal/strconv.uint64pow10", "math/bits.deBruijn32tab", "math/bits.deBruijn64tab"], apart := false, laid := [("math/bits.deBruijn32tab", laid_math_bits_deBruijn32tab), ("math/bits.deBruijn64tab", laid_math_bits_deBruijn64tab), ("internal/strconv.uint64pow10", laid_internal_strconv_uint64pow10)] }
def LangBlanksSaid : Prop := langBlanksRow.holds Tryd.pinned (OpenSpec.ofChange langBlanksSpec)

/-- ITS FALSE NEIGHBOUR: 'it returns false'. Refute it at one input. -/
def langBlanksWrong : ChangeSpec := { name := "langBlanks", fn := fun _ => fun
  | [d1, d2] => { results := [.lit (.bool false)], args := [d1, d2] }
  | _ => none }
def LangBlanksWrongFalsely : Prop := langBlanksRow.holds Tryd.pinned (OpenSpec.ofChange langBlanksWrong)

/-- 'codewrightlaw21.LangOffsets': WHATEVER THE INPUT: true; the input reads as it did. -/
def langOffsetsSpec : ChangeSpec := { name := "langOffsets", fn := fun _ => fun
  | [d] => { results := [.lit (.bool true)], args := [d] }
  | _ => none }
def langOffsetsRow : OpenClaim := { program := "ytbjagceopgofiaadoor", sum := "a8d65add86f1fcb9fda3aac6607852b45ad4fcc6c36cd0cdb8c7a8f0e487843e", func := "codewright/codewrightlaw21.LangOffsets", spec := "langOffsets", inPlace := ["internal/bytealg.IndexByteString", "internal/abi.NoEscape"], unfollowed := true, recurses := true, named := ["internal/strconv.uint64pow10", "math/bits.deBruijn32tab", "math/bits.deBruijn64tab"], apart := false, laid := [("math/bits.deBruijn32tab", laid_math_bits_deBruijn32tab), ("math/bits.deBruijn64tab", laid_math_bits_deBruijn64tab), ("internal/strconv.uint64pow10", laid_internal_strconv_uint64pow10)] }
def LangOffsetsSaid : Prop := langOffsetsRow.holds Tryd.pinned (OpenSpec.ofChange langOffsetsSpec)

/-- ITS FALSE NEIGHBOUR: 'it returns false'. Refute it at one input. -/
def langOffsetsWrong : ChangeSpec := { name := "langOffsets", fn := fun _ => fun
  | [d] => { results := [.lit (.bool false)], args := [d] }
  | _ => none }
def LangOffsetsWrongFalsely : Prop := langOffsetsRow.holds Tryd.pinned (OpenSpec.ofChange langOffsetsWrong)

/-- 'codewrightlaw21.LangSizes': WHATEVER THE INPUT: true; the input reads as it did. -/
def langSizesSpec : ChangeSpec := { name := "langSizes", fn := fun _ => fun
  | [d] => { results := [.lit (.bool true)], args := [d] }
  | _ => none }
def langSizesRow : OpenClaim := { program := "ytbjagceopgofiaadoor", sum := "a8d65add86f1fcb9fda3aac6607852b45ad4fcc6c36cd0cdb8c7a8f0e487843e", func := "codewright/codewrightlaw21.LangSizes", spec := "langSizes", inPlace := ["internal/bytealg.IndexByteString", "internal/abi.NoEscape"], unfollowed := true, recurses := true, named := ["internal/strconv.uint64pow10", "math/bits.deBruijn32tab", "math/bits.deBruijn64tab"], loops := true, apart := false, laid := [("math/bits.deBruijn32tab", laid_math_bits_deBruijn32tab), ("math/bits.deBruijn64tab", laid_math_bits_deBruijn64tab), ("internal/strconv.uint64pow10", laid_internal_strconv_uint64pow10)] }
def LangSizesSaid : Prop := langSizesRow.holds Tryd.pinned (OpenSpec.ofChange langSizesSpec)

/-- ITS FALSE NEIGHBOUR: 'it returns false'. Refute it at one input. -/
def langSizesWrong : ChangeSpec := { name := "langSizes", fn := fun _ => fun
  | [d] => { results := [.lit (.bool false)], args := [d] }
  | _ => none }
def LangSizesWrongFalsely : Prop := langSizesRow.holds Tryd.pinned (OpenSpec.ofChange langSizesWrong)

/-- 'codewrightlaw21.LangTokens': WHATEVER THE INPUT: true; the input reads as it did. -/
def langTokensSpec : ChangeSpec := { name := "langTokens", fn := fun _ => fun
  | [d] => { results := [.lit (.bool true)], args := [d] }
  | _ => none }
def langTokensRow : OpenClaim := { program := "ytbjagceopgofiaadoor", sum := "a8d65add86f1fcb9fda3aac6607852b45ad4fcc6c36cd0cdb8c7a8f0e487843e", func := "codewright/codewrightlaw21.LangTokens", spec := "langTokens", inPlace := ["internal/bytealg.IndexByteString", "internal/abi.NoEscape"], unfollowed := true, recurses := true, named := ["internal/strconv.uint64pow10", "math/bits.deBruijn32tab", "math/bits.deBruijn64tab"], apart := false, laid := [("math/bits.deBruijn32tab", laid_math_bits_deBruijn32tab), ("math/bits.deBruijn64tab", laid_math_bits_deBruijn64tab), ("internal/strconv.uint64pow10", laid_internal_strconv_uint64pow10)] }
def LangTokensSaid : Prop := langTokensRow.holds Tryd.pinned (OpenSpec.ofChange langTokensSpec)

/-- ITS FALSE NEIGHBOUR: 'it returns false'. Refute it at one input. -/
def langTokensWrong : ChangeSpec := { name := "langTokens", fn := fun _ => fun
  | [d] => { results := [.lit (.bool false)], args := [d] }
  | _ => none }
def LangTokensWrongFalsely : Prop := langTokensRow.holds Tryd.pinned (OpenSpec.ofChange langTokensWrong)

/- THE SECOND FORM. 'bulk': how many values and letters a reading holds, each counted each time it is reached (what is shared counts as often as it is met; a slice's spare places count too). A statement '..UptoSaid' is the law's where the arguments, and the package variables that the reading takes, are together of bulk at most 1048576: NARROWER than '..Said'. Prove '..Said' where nothing that the law and all that it calls make is longer than what came in: it says more and counts as full. Else prove '..UptoSaid'. A law counts once. -/
mutual
def uptoBulk {H : Type} : DataW H → Nat
  | .lit (.string bytes) => bytes.length + 1
  | .lit _ => 1
  | .nil => 1
  | .ptr d => uptoBulk d + 1
  | .slice elems spare => uptoBulkAll elems + uptoBulkAll spare + 1
  | .agg parts => uptoBulkAll parts + 1
  | .iface _ d => uptoBulk d + 1
  | .map entries => uptoBulkEntries entries + 1
  | .held _ => 1
def uptoBulkAll {H : Type} : List (DataW H) → Nat
  | [] => 0
  | d :: r => uptoBulk d + uptoBulkAll r
def uptoBulkEntries {H : Type} : List (Lit × DataW H) → Nat
  | [] => 0
  | x :: r => uptoBulkEntry x + uptoBulkEntries r
def uptoBulkEntry {H : Type} : Lit × DataW H → Nat
  | (.string bytes, d) => bytes.length + uptoBulk d + 1
  | (_, d) => uptoBulk d + 1
 end
def uptoSmall : (H : Type) → List (DataW H) → Bool := fun _ ds => decide (uptoBulkAll ds ≤ 1048576)
def OpenSpec.upto (s : _root_.Go.ChangeSpec) : _root_.Go.OpenSpec := { _root_.Go.OpenSpec.ofChange s with cond := some uptoSmall }

/-- 'codewrightlaw21.LangParses', WHERE WHAT IT READS IS OF BULK AT MOST 1048576: true; the input reads as it did. -/
def langParsesUptoRow : OpenClaim := { program := "ytbjagceopgofiaadoor", sum := "a8d65add86f1fcb9fda3aac6607852b45ad4fcc6c36cd0cdb8c7a8f0e487843e", func := "codewright/codewrightlaw21.LangParses", spec := "langParses", inPlace := ["internal/bytealg.IndexByteString", "internal/abi.NoEscape"], unfollowed := true, recurses := true, named := ["internal/strconv.uint64pow10", "math/bits.deBruijn32tab", "math/bits.deBruijn64tab"], apart := false, laid := [("math/bits.deBruijn32tab", laid_math_bits_deBruijn32tab), ("math/bits.deBruijn64tab", laid_math_bits_deBruijn64tab), ("internal/strconv.uint64pow10", laid_internal_strconv_uint64pow10)], narrowed := true }
def LangParsesUptoSaid : Prop := langParsesUptoRow.holds Tryd.pinned (OpenSpec.upto langParsesSpec)

/-- 'codewrightlaw21.LangChecks', WHERE WHAT IT READS IS OF BULK AT MOST 1048576: true; the input reads as it did. -/
def langChecksUptoRow : OpenClaim := { program := "ytbjagceopgofiaadoor", sum := "a8d65add86f1fcb9fda3aac6607852b45ad4fcc6c36cd0cdb8c7a8f0e487843e", func := "codewright/codewrightlaw21.LangChecks", spec := "langChecks", inPlace := ["internal/bytealg.IndexByteString", "internal/abi.NoEscape"], unfollowed := true, recurses := true, named := ["internal/strconv.uint64pow10", "math/bits.deBruijn32tab", "math/bits.deBruijn64tab"], loops := true, apart := false, laid := [("math/bits.deBruijn32tab", laid_math_bits_deBruijn32tab), ("math/bits.deBruijn64tab", laid_math_bits_deBruijn64tab), ("internal/strconv.uint64pow10", laid_internal_strconv_uint64pow10)], narrowed := true }
def LangChecksUptoSaid : Prop := langChecksUptoRow.holds Tryd.pinned (OpenSpec.upto langChecksSpec)

/-- 'codewrightlaw21.LangFormats', WHERE WHAT IT READS IS OF BULK AT MOST 1048576: true; the input reads as it did. -/
def langFormatsUptoRow : OpenClaim := { program := "ytbjagceopgofiaadoor", sum := "a8d65add86f1fcb9fda3aac6607852b45ad4fcc6c36cd0cdb8c7a8f0e487843e", func := "codewright/codewrightlaw21.LangFormats", spec := "langFormats", inPlace := ["internal/bytealg.IndexByteString", "internal/abi.NoEscape"], unfollowed := true, recurses := true, named := ["internal/strconv.uint64pow10", "math/bits.deBruijn32tab", "math/bits.deBruijn64tab"], loops := true, apart := false, laid := [("math/bits.deBruijn32tab", laid_math_bits_deBruijn32tab), ("math/bits.deBruijn64tab", laid_math_bits_deBruijn64tab), ("internal/strconv.uint64pow10", laid_internal_strconv_uint64pow10)], narrowed := true }
def LangFormatsUptoSaid : Prop := langFormatsUptoRow.holds Tryd.pinned (OpenSpec.upto langFormatsSpec)

/-- 'codewrightlaw21.LangBack', WHERE WHAT IT READS IS OF BULK AT MOST 1048576: true; the input reads as it did. -/
def langBackUptoRow : OpenClaim := { program := "ytbjagceopgofiaadoor", sum := "a8d65add86f1fcb9fda3aac6607852b45ad4fcc6c36cd0cdb8c7a8f0e487843e", func := "codewright/codewrightlaw21.LangBack", spec := "langBack", inPlace := ["internal/bytealg.IndexByteString", "internal/abi.NoEscape"], unfollowed := true, recurses := true, named := ["internal/strconv.uint64pow10", "math/bits.deBruijn32tab", "math/bits.deBruijn64tab"], loops := true, apart := false, laid := [("math/bits.deBruijn32tab", laid_math_bits_deBruijn32tab), ("math/bits.deBruijn64tab", laid_math_bits_deBruijn64tab), ("internal/strconv.uint64pow10", laid_internal_strconv_uint64pow10)], narrowed := true }
def LangBackUptoSaid : Prop := langBackUptoRow.holds Tryd.pinned (OpenSpec.upto langBackSpec)

/-- 'codewrightlaw21.LangAgain', WHERE WHAT IT READS IS OF BULK AT MOST 1048576: true; the input reads as it did. -/
def langAgainUptoRow : OpenClaim := { program := "ytbjagceopgofiaadoor", sum := "a8d65add86f1fcb9fda3aac6607852b45ad4fcc6c36cd0cdb8c7a8f0e487843e", func := "codewright/codewrightlaw21.LangAgain", spec := "langAgain", inPlace := ["internal/bytealg.IndexByteString", "internal/abi.NoEscape"], unfollowed := true, recurses := true, named := ["internal/strconv.uint64pow10", "math/bits.deBruijn32tab", "math/bits.deBruijn64tab"], apart := false, laid := [("math/bits.deBruijn32tab", laid_math_bits_deBruijn32tab), ("math/bits.deBruijn64tab", laid_math_bits_deBruijn64tab), ("internal/strconv.uint64pow10", laid_internal_strconv_uint64pow10)], narrowed := true }
def LangAgainUptoSaid : Prop := langAgainUptoRow.holds Tryd.pinned (OpenSpec.upto langAgainSpec)

/-- 'codewrightlaw21.LangBlanks', WHERE WHAT IT READS IS OF BULK AT MOST 1048576: true; the input reads as it did. -/
def langBlanksUptoRow : OpenClaim := { program := "ytbjagceopgofiaadoor", sum := "a8d65add86f1fcb9fda3aac6607852b45ad4fcc6c36cd0cdb8c7a8f0e487843e", func := "codewright/codewrightlaw21.LangBlanks", spec := "langBlanks", inPlace := ["internal/bytealg.IndexByteString", "internal/abi.NoEscape"], unfollowed := true, recurses := true, named := ["internal/strconv.uint64pow10", "math/bits.deBruijn32tab", "math/bits.deBruijn64tab"], apart := false, laid := [("math/bits.deBruijn32tab", laid_math_bits_deBruijn32tab), ("math/bits.deBruijn64tab", laid_math_bits_deBruijn64tab), ("internal/strconv.uint64pow10", laid_internal_strconv_uint64pow10)], narrowed := true }
def LangBlanksUptoSaid : Prop := langBlanksUptoRow.holds Tryd.pinned (OpenSpec.upto langBlanksSpec)

/-- 'codewrightlaw21.LangOffsets', WHERE WHAT IT READS IS OF BULK AT MOST 1048576: true; the input reads as it did. -/
def langOffsetsUptoRow : OpenClaim := { program := "ytbjagceopgofiaadoor", sum := "a8d65add86f1fcb9fda3aac6607852b45ad4fcc6c36cd0cdb8c7a8f0e487843e", func := "codewright/codewrightlaw21.LangOffsets", spec := "langOffsets", inPlace := ["internal/bytealg.IndexByteString", "internal/abi.NoEscape"], unfollowed := true, recurses := true, named := ["internal/strconv.uint64pow10", "math/bits.deBruijn32tab", "math/bits.deBruijn64tab"], apart := false, laid := [("math/bits.deBruijn32tab", laid_math_bits_deBruijn32tab), ("math/bits.deBruijn64tab", laid_math_bits_deBruijn64tab), ("internal/strconv.uint64pow10", laid_internal_strconv_uint64pow10)], narrowed := true }
def LangOffsetsUptoSaid : Prop := langOffsetsUptoRow.holds Tryd.pinned (OpenSpec.upto langOffsetsSpec)

/-- 'codewrightlaw21.LangSizes', WHERE WHAT IT READS IS OF BULK AT MOST 1048576: true; the input reads as it did. -/
def langSizesUptoRow : OpenClaim := { program := "ytbjagceopgofiaadoor", sum := "a8d65add86f1fcb9fda3aac6607852b45ad4fcc6c36cd0cdb8c7a8f0e487843e", func := "codewright/codewrightlaw21.LangSizes", spec := "langSizes", inPlace := ["internal/bytealg.IndexByteString", "internal/abi.NoEscape"], unfollowed := true, recurses := true, named := ["internal/strconv.uint64pow10", "math/bits.deBruijn32tab", "math/bits.deBruijn64tab"], loops := true, apart := false, laid := [("math/bits.deBruijn32tab", laid_math_bits_deBruijn32tab), ("math/bits.deBruijn64tab", laid_math_bits_deBruijn64tab), ("internal/strconv.uint64pow10", laid_internal_strconv_uint64pow10)], narrowed := true }
def LangSizesUptoSaid : Prop := langSizesUptoRow.holds Tryd.pinned (OpenSpec.upto langSizesSpec)

/-- 'codewrightlaw21.LangTokens', WHERE WHAT IT READS IS OF BULK AT MOST 1048576: true; the input reads as it did. -/
def langTokensUptoRow : OpenClaim := { program := "ytbjagceopgofiaadoor", sum := "a8d65add86f1fcb9fda3aac6607852b45ad4fcc6c36cd0cdb8c7a8f0e487843e", func := "codewright/codewrightlaw21.LangTokens", spec := "langTokens", inPlace := ["internal/bytealg.IndexByteString", "internal/abi.NoEscape"], unfollowed := true, recurses := true, named := ["internal/strconv.uint64pow10", "math/bits.deBruijn32tab", "math/bits.deBruijn64tab"], apart := false, laid := [("math/bits.deBruijn32tab", laid_math_bits_deBruijn32tab), ("math/bits.deBruijn64tab", laid_math_bits_deBruijn64tab), ("internal/strconv.uint64pow10", laid_internal_strconv_uint64pow10)], narrowed := true }
def LangTokensUptoSaid : Prop := langTokensUptoRow.holds Tryd.pinned (OpenSpec.upto langTokensSpec)

end Rows
end Go.Proofs.YtbjagceopgofiaaDoor
