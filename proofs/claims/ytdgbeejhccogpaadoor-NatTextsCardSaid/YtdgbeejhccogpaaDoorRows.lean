/-
  NARROWER THAN 'FOR EVERY INPUT', by the rows' own cells (each row's printed sentence says how): NatDivides: laid · NatCommon: laid · NatTexts: laid · NatSums: laid · NatBack: laid · NatBits: laid · NatSquares: laid · NatWide: laid.
  DERIVED. THE GIVEN ROWS OF THIS SEAT. 8 by the template 'for every input the law returns true; each argument reads behind the call as it read before'; 0 by the template 'total and deterministic' (their statements: YtdgbeejhccogpaaDoorTotals.lean).
  GIVEN WITH THE SEED: the statements are not yours to turn. If you find one false, say at which input.
  Laid BY PROGRAM, IN A SANDBOX (cutbox-rows.mjs): the forced cells as the released guide's own fill.sh prints them over the translation ac089fa3c1283d64… (all of the seat's roots in one cut). By AI agents, Wed Nov 11 2026. No macro, syntax, notation, axiom, sorry.
-/
import Derived.Test.YtdgbeejhccogpaaDoorChecked
import GoSem.PinnedTables
import GoSem.Claim
import GoSem.ClaimJoined
import GoSem.ClaimMapViews
import Derived.JoinedTies
import Derived.KernelRfl
namespace Go.Proofs.YtdgbeejhccogpaaDoor
/- THE CELL 'sum', in the pinned program and in every row, IS THE sha256 OF THE DUMP (.gsa) THAT YtdgbeejhccogpaaDoorProg.lean LOADS. Nothing in Lean hashes anything: it is a label: what it is worth is what the hold of that sum in a sandbox is worth. -/
noncomputable def Tryd.pinned : Pinned := { name := "ytdgbeejhccogpaadoor", sum := "ac089fa3c1283d64270a5805d48742701bd44f677962a74c0c37f70579250997", checked := Tryd.checked }
namespace Rows
def none {H : Type} : Left H := { results := [], args := [] }

/- WHAT THE LISTED PACKAGE-LEVEL VARIABLES READ AS WHEN THE CALL BEGINS. Each datum BY PROGRAM (the guide's laid-datum.mjs) off the statement by which the dump's own 'gosem.cut.vars' lays the variable. In a bare row this is a premise. The card (YtdgbeejhccogpaaDoorCards.lean) ties it to the program's text. -/
def laid_unicode_utf8_acceptRanges {H : Type} : DataW H := .agg [.agg [.lit (.int .u8 128), .lit (.int .u8 191)], .agg [.lit (.int .u8 160), .lit (.int .u8 191)], .agg [.lit (.int .u8 128), .lit (.int .u8 159)], .agg [.lit (.int .u8 144), .lit (.int .u8 191)], .agg [.lit (.int .u8 128), .lit (.int .u8 143)], .agg [.lit (.int .u8 0), .lit (.int .u8 0)], .agg [.lit (.int .u8 0), .lit (.int .u8 0)], .agg [.lit (.int .u8 0), .lit (.int .u8 0)], .agg [.lit (.int .u8 0), .lit (.int .u8 0)], .agg [.lit (.int .u8 0), .lit (.int .u8 0)], .agg [.lit (.int .u8 0), .lit (.int .u8 0)], .agg [.lit (.int .u8 0), .lit (.int .u8 0)], .agg [.lit (.int .u8 0), .lit (.int .u8 0)], .agg [.lit (.int .u8 0), .lit (.int .u8 0)], .agg [.lit (.int .u8 0), .lit (.int .u8 0)], .agg [.lit (.int .u8 0), .lit (.int .u8 0)]]
/-- One of Go's own tables, pinned by name: the form's constant. -/
def laid_unicode_utf8_first : DataW Unit := Go.Pinned.utf8First

/-- 'samphirelaw02.NatDivides': WHATEVER THE INPUT: true; the input reads as it did. -/
def natDividesSpec : ChangeSpec := { name := "natDivides", fn := fun _ => fun
  | [d1, d2] => { results := [.lit (.bool true)], args := [d1, d2] }
  | _ => none }
def natDividesRow : OpenClaim := { program := "ytdgbeejhccogpaadoor", sum := "ac089fa3c1283d64270a5805d48742701bd44f677962a74c0c37f70579250997", func := "samphire/samphirelaw02.NatDivides", spec := "natDivides", inPlace := ["internal/bytealg.IndexByteString", "internal/bytealg.IndexString"], named := ["unicode/utf8.first", "unicode/utf8.acceptRanges", "internal/bytealg.MaxLen"], apart := false, laid := [("unicode/utf8.acceptRanges", laid_unicode_utf8_acceptRanges), ("unicode/utf8.first", laid_unicode_utf8_first)] }
def NatDividesSaid : Prop := natDividesRow.holds Tryd.pinned (OpenSpec.ofChange natDividesSpec)

/-- ITS FALSE NEIGHBOUR: 'it returns false'. Refute it at one input. -/
def natDividesWrong : ChangeSpec := { name := "natDivides", fn := fun _ => fun
  | [d1, d2] => { results := [.lit (.bool false)], args := [d1, d2] }
  | _ => none }
def NatDividesWrongFalsely : Prop := natDividesRow.holds Tryd.pinned (OpenSpec.ofChange natDividesWrong)

/-- 'samphirelaw02.NatCommon': WHATEVER THE INPUT: true; the input reads as it did. -/
def natCommonSpec : ChangeSpec := { name := "natCommon", fn := fun _ => fun
  | [d1, d2] => { results := [.lit (.bool true)], args := [d1, d2] }
  | _ => none }
def natCommonRow : OpenClaim := { program := "ytdgbeejhccogpaadoor", sum := "ac089fa3c1283d64270a5805d48742701bd44f677962a74c0c37f70579250997", func := "samphire/samphirelaw02.NatCommon", spec := "natCommon", inPlace := ["internal/bytealg.IndexByteString", "internal/bytealg.IndexString"], named := ["unicode/utf8.first", "unicode/utf8.acceptRanges", "internal/bytealg.MaxLen"], apart := false, laid := [("unicode/utf8.acceptRanges", laid_unicode_utf8_acceptRanges), ("unicode/utf8.first", laid_unicode_utf8_first)] }
def NatCommonSaid : Prop := natCommonRow.holds Tryd.pinned (OpenSpec.ofChange natCommonSpec)

/-- ITS FALSE NEIGHBOUR: 'it returns false'. Refute it at one input. -/
def natCommonWrong : ChangeSpec := { name := "natCommon", fn := fun _ => fun
  | [d1, d2] => { results := [.lit (.bool false)], args := [d1, d2] }
  | _ => none }
def NatCommonWrongFalsely : Prop := natCommonRow.holds Tryd.pinned (OpenSpec.ofChange natCommonWrong)

/-- 'samphirelaw02.NatTexts': WHATEVER THE INPUT: true; the input reads as it did. -/
def natTextsSpec : ChangeSpec := { name := "natTexts", fn := fun _ => fun
  | [d1, d2, d3] => { results := [.lit (.bool true)], args := [d1, d2, d3] }
  | _ => none }
def natTextsRow : OpenClaim := { program := "ytdgbeejhccogpaadoor", sum := "ac089fa3c1283d64270a5805d48742701bd44f677962a74c0c37f70579250997", func := "samphire/samphirelaw02.NatTexts", spec := "natTexts", inPlace := ["internal/bytealg.IndexByteString", "internal/bytealg.IndexString"], named := ["unicode/utf8.first", "unicode/utf8.acceptRanges", "internal/bytealg.MaxLen"], apart := false, laid := [("unicode/utf8.acceptRanges", laid_unicode_utf8_acceptRanges), ("unicode/utf8.first", laid_unicode_utf8_first)] }
def NatTextsSaid : Prop := natTextsRow.holds Tryd.pinned (OpenSpec.ofChange natTextsSpec)

/-- ITS FALSE NEIGHBOUR: 'it returns false'. Refute it at one input. -/
def natTextsWrong : ChangeSpec := { name := "natTexts", fn := fun _ => fun
  | [d1, d2, d3] => { results := [.lit (.bool false)], args := [d1, d2, d3] }
  | _ => none }
def NatTextsWrongFalsely : Prop := natTextsRow.holds Tryd.pinned (OpenSpec.ofChange natTextsWrong)

/-- 'samphirelaw02.NatSums': WHATEVER THE INPUT: true; the input reads as it did. -/
def natSumsSpec : ChangeSpec := { name := "natSums", fn := fun _ => fun
  | [d1, d2] => { results := [.lit (.bool true)], args := [d1, d2] }
  | _ => none }
def natSumsRow : OpenClaim := { program := "ytdgbeejhccogpaadoor", sum := "ac089fa3c1283d64270a5805d48742701bd44f677962a74c0c37f70579250997", func := "samphire/samphirelaw02.NatSums", spec := "natSums", inPlace := ["internal/bytealg.IndexByteString", "internal/bytealg.IndexString"], named := ["unicode/utf8.first", "unicode/utf8.acceptRanges", "internal/bytealg.MaxLen"], apart := false, laid := [("unicode/utf8.acceptRanges", laid_unicode_utf8_acceptRanges), ("unicode/utf8.first", laid_unicode_utf8_first)] }
def NatSumsSaid : Prop := natSumsRow.holds Tryd.pinned (OpenSpec.ofChange natSumsSpec)

/-- ITS FALSE NEIGHBOUR: 'it returns false'. Refute it at one input. -/
def natSumsWrong : ChangeSpec := { name := "natSums", fn := fun _ => fun
  | [d1, d2] => { results := [.lit (.bool false)], args := [d1, d2] }
  | _ => none }
def NatSumsWrongFalsely : Prop := natSumsRow.holds Tryd.pinned (OpenSpec.ofChange natSumsWrong)

/-- 'samphirelaw02.NatBack': WHATEVER THE INPUT: true; the input reads as it did. -/
def natBackSpec : ChangeSpec := { name := "natBack", fn := fun _ => fun
  | [d1, d2] => { results := [.lit (.bool true)], args := [d1, d2] }
  | _ => none }
def natBackRow : OpenClaim := { program := "ytdgbeejhccogpaadoor", sum := "ac089fa3c1283d64270a5805d48742701bd44f677962a74c0c37f70579250997", func := "samphire/samphirelaw02.NatBack", spec := "natBack", inPlace := ["internal/bytealg.IndexByteString", "internal/bytealg.IndexString"], named := ["unicode/utf8.first", "unicode/utf8.acceptRanges", "internal/bytealg.MaxLen"], apart := false, laid := [("unicode/utf8.acceptRanges", laid_unicode_utf8_acceptRanges), ("unicode/utf8.first", laid_unicode_utf8_first)] }
def NatBackSaid : Prop := natBackRow.holds Tryd.pinned (OpenSpec.ofChange natBackSpec)

/-- ITS FALSE NEIGHBOUR: 'it returns false'. Refute it at one input. -/
def natBackWrong : ChangeSpec := { name := "natBack", fn := fun _ => fun
  | [d1, d2] => { results := [.lit (.bool false)], args := [d1, d2] }
  | _ => none }
def NatBackWrongFalsely : Prop := natBackRow.holds Tryd.pinned (OpenSpec.ofChange natBackWrong)

/-- 'samphirelaw02.NatBits': WHATEVER THE INPUT: true; the input reads as it did. -/
def natBitsSpec : ChangeSpec := { name := "natBits", fn := fun _ => fun
  | [d1, d2] => { results := [.lit (.bool true)], args := [d1, d2] }
  | _ => none }
def natBitsRow : OpenClaim := { program := "ytdgbeejhccogpaadoor", sum := "ac089fa3c1283d64270a5805d48742701bd44f677962a74c0c37f70579250997", func := "samphire/samphirelaw02.NatBits", spec := "natBits", inPlace := ["internal/bytealg.IndexByteString", "internal/bytealg.IndexString"], named := ["unicode/utf8.first", "unicode/utf8.acceptRanges", "internal/bytealg.MaxLen"], apart := false, laid := [("unicode/utf8.acceptRanges", laid_unicode_utf8_acceptRanges), ("unicode/utf8.first", laid_unicode_utf8_first)] }
def NatBitsSaid : Prop := natBitsRow.holds Tryd.pinned (OpenSpec.ofChange natBitsSpec)

/-- ITS FALSE NEIGHBOUR: 'it returns false'. Refute it at one input. -/
def natBitsWrong : ChangeSpec := { name := "natBits", fn := fun _ => fun
  | [d1, d2] => { results := [.lit (.bool false)], args := [d1, d2] }
  | _ => none }
def NatBitsWrongFalsely : Prop := natBitsRow.holds Tryd.pinned (OpenSpec.ofChange natBitsWrong)

/-- 'samphirelaw02.NatSquares': WHATEVER THE INPUT: true; the input reads as it did. -/
def natSquaresSpec : ChangeSpec := { name := "natSquares", fn := fun _ => fun
  | [d1, d2] => { results := [.lit (.bool true)], args := [d1, d2] }
  | _ => none }
def natSquaresRow : OpenClaim := { program := "ytdgbeejhccogpaadoor", sum := "ac089fa3c1283d64270a5805d48742701bd44f677962a74c0c37f70579250997", func := "samphire/samphirelaw02.NatSquares", spec := "natSquares", inPlace := ["internal/bytealg.IndexByteString", "internal/bytealg.IndexString"], named := ["unicode/utf8.first", "unicode/utf8.acceptRanges", "internal/bytealg.MaxLen"], apart := false, laid := [("unicode/utf8.acceptRanges", laid_unicode_utf8_acceptRanges), ("unicode/utf8.first", laid_unicode_utf8_first)] }
def NatSquaresSaid : Prop := natSquaresRow.holds Tryd.pinned (OpenSpec.ofChange natSquaresSpec)

/-- ITS FALSE NEIGHBOUR: 'it returns false'. Refute it at one input. -/
def natSquaresWrong : ChangeSpec := { name := "natSquares", fn := fun _ => fun
  | [d1, d2] => { results := [.lit (.bool false)], args := [d1, d2] }
  | _ => none }
def NatSquaresWrongFalsely : Prop := natSquaresRow.holds Tryd.pinned (OpenSpec.ofChange natSquaresWrong)

/-- 'samphirelaw02.NatWide': WHATEVER THE INPUT: true; the input reads as it did. -/
def natWideSpec : ChangeSpec := { name := "natWide", fn := fun _ => fun
  | [d1, d2] => { results := [.lit (.bool true)], args := [d1, d2] }
  | _ => none }
def natWideRow : OpenClaim := { program := "ytdgbeejhccogpaadoor", sum := "ac089fa3c1283d64270a5805d48742701bd44f677962a74c0c37f70579250997", func := "samphire/samphirelaw02.NatWide", spec := "natWide", inPlace := ["math/bits.Add64", "internal/bytealg.IndexByteString", "internal/bytealg.IndexString", "math/bits.Sub64"], named := ["unicode/utf8.first", "unicode/utf8.acceptRanges", "math/bits.divideError", "math/bits.overflowError", "internal/bytealg.MaxLen"], apart := false, laid := [("unicode/utf8.acceptRanges", laid_unicode_utf8_acceptRanges), ("unicode/utf8.first", laid_unicode_utf8_first)] }
def NatWideSaid : Prop := natWideRow.holds Tryd.pinned (OpenSpec.ofChange natWideSpec)

/-- ITS FALSE NEIGHBOUR: 'it returns false'. Refute it at one input. -/
def natWideWrong : ChangeSpec := { name := "natWide", fn := fun _ => fun
  | [d1, d2] => { results := [.lit (.bool false)], args := [d1, d2] }
  | _ => none }
def NatWideWrongFalsely : Prop := natWideRow.holds Tryd.pinned (OpenSpec.ofChange natWideWrong)

/- THE SECOND FORM. 'bulk': how many values and letters a reading holds, each counted each time it is reached (what is shared counts as often as it is met; a slice's spare places count too). A statement '..UptoSaid' is the law's where the arguments, and the package variables that the reading takes, are together of bulk at most 1048576: NARROWER than '..Said'. Prove '..Said' where nothing that the law and all that it calls make is longer than what came in: it says more and counts as full. Else prove '..UptoSaid'. A law counts once. -/
mutual
def uptoBulk {H : Type} : DataW H → Nat
  | .lit (.string bytes) => bytes.length + 1
  | .lit _ => 1
  | .nil => 1
  | .ptr d => uptoBulk d + 1
  | .slice elems spare => uptoBulkAll elems + uptoBulkAll spare + 1
  | .agg parts => uptoBulkAll parts + 1
  | .iface _ d => uptoBulk d + 1
  | .map entries => uptoBulkEntries entries + 1
  | .held _ => 1
def uptoBulkAll {H : Type} : List (DataW H) → Nat
  | [] => 0
  | d :: r => uptoBulk d + uptoBulkAll r
def uptoBulkEntries {H : Type} : List (Lit × DataW H) → Nat
  | [] => 0
  | x :: r => uptoBulkEntry x + uptoBulkEntries r
def uptoBulkEntry {H : Type} : Lit × DataW H → Nat
  | (.string bytes, d) => bytes.length + uptoBulk d + 1
  | (_, d) => uptoBulk d + 1
 end
def uptoSmall : (H : Type) → List (DataW H) → Bool := fun _ ds => decide (uptoBulkAll ds ≤ 1048576)
def OpenSpec.upto (s : _root_.Go.ChangeSpec) : _root_.Go.OpenSpec := { _root_.Go.OpenSpec.ofChange s with cond := some uptoSmall }

/-- 'samphirelaw02.NatDivides', WHERE WHAT IT READS IS OF BULK AT MOST 1048576: true; the input reads as it did. -/
def natDividesUptoRow : OpenClaim := { program := "ytdgbeejhccogpaadoor", sum := "ac089fa3c1283d64270a5805d48742701bd44f677962a74c0c37f70579250997", func := "samphire/samphirelaw02.NatDivides", spec := "natDivides", inPlace := ["internal/bytealg.IndexByteString", "internal/bytealg.IndexString"], named := ["unicode/utf8.first", "unicode/utf8.acceptRanges", "internal/bytealg.MaxLen"], apart := false, laid := [("unicode/utf8.acceptRanges", laid_unicode_utf8_acceptRanges), ("unicode/utf8.first", laid_unicode_utf8_first)], narrowed := true }
def NatDividesUptoSaid : Prop := natDividesUptoRow.holds Tryd.pinned (OpenSpec.upto natDividesSpec)

/-- 'samphirelaw02.NatCommon', WHERE WHAT IT READS IS OF BULK AT MOST 1048576: true; the input reads as it did. -/
def natCommonUptoRow : OpenClaim := { program := "ytdgbeejhccogpaadoor", sum := "ac089fa3c1283d64270a5805d48742701bd44f677962a74c0c37f70579250997", func := "samphire/samphirelaw02.NatCommon", spec := "natCommon", inPlace := ["internal/bytealg.IndexByteString", "internal/bytealg.IndexString"], named := ["unicode/utf8.first", "unicode/utf8.acceptRanges", "internal/bytealg.MaxLen"], apart := false, laid := [("unicode/utf8.acceptRanges", laid_unicode_utf8_acceptRanges), ("unicode/utf8.first", laid_unicode_utf8_first)], narrowed := true }
def NatCommonUptoSaid : Prop := natCommonUptoRow.holds Tryd.pinned (OpenSpec.upto natCommonSpec)

/-- 'samphirelaw02.NatTexts', WHERE WHAT IT READS IS OF BULK AT MOST 1048576: true; the input reads as it did. -/
def natTextsUptoRow : OpenClaim := { program := "ytdgbeejhccogpaadoor", sum := "ac089fa3c1283d64270a5805d48742701bd44f677962a74c0c37f70579250997", func := "samphire/samphirelaw02.NatTexts", spec := "natTexts", inPlace := ["internal/bytealg.IndexByteString", "internal/bytealg.IndexString"], named := ["unicode/utf8.first", "unicode/utf8.acceptRanges", "internal/bytealg.MaxLen"], apart := false, laid := [("unicode/utf8.acceptRanges", laid_unicode_utf8_acceptRanges), ("unicode/utf8.first", laid_unicode_utf8_first)], narrowed := true }
def NatTextsUptoSaid : Prop := natTextsUptoRow.holds Tryd.pinned (OpenSpec.upto natTextsSpec)

/-- 'samphirelaw02.NatSums', WHERE WHAT IT READS IS OF BULK AT MOST 1048576: true; the input reads as it did. -/
def natSumsUptoRow : OpenClaim := { program := "ytdgbeejhccogpaadoor", sum := "ac089fa3c1283d64270a5805d48742701bd44f677962a74c0c37f70579250997", func := "samphire/samphirelaw02.NatSums", spec := "natSums", inPlace := ["internal/bytealg.IndexByteString", "internal/bytealg.IndexString"], named := ["unicode/utf8.first", "unicode/utf8.acceptRanges", "internal/bytealg.MaxLen"], apart := false, laid := [("unicode/utf8.acceptRanges", laid_unicode_utf8_acceptRanges), ("unicode/utf8.first", laid_unicode_utf8_first)], narrowed := true }
def NatSumsUptoSaid : Prop := natSumsUptoRow.holds Tryd.pinned (OpenSpec.upto natSumsSpec)

/-- 'samphirelaw02.NatBack', WHERE WHAT IT READS IS OF BULK AT MOST 1048576: true; the input reads as it did. -/
def natBackUptoRow : OpenClaim := { program := "ytdgbeejhccogpaadoor", sum := "ac089fa3c1283d64270a5805d48742701bd44f677962a74c0c37f70579250997", func := "samphire/samphirelaw02.NatBack", spec := "natBack", inPlace := ["internal/bytealg.IndexByteString", "internal/bytealg.IndexString"], named := ["unicode/utf8.first", "unicode/utf8.acceptRanges", "internal/bytealg.MaxLen"], apart := false, laid := [("unicode/utf8.acceptRanges", laid_unicode_utf8_acceptRanges), ("unicode/utf8.first", laid_unicode_utf8_first)], narrowed := true }
def NatBackUptoSaid : Prop := natBackUptoRow.holds Tryd.pinned (OpenSpec.upto natBackSpec)

/-- 'samphirelaw02.NatBits', WHERE WHAT IT READS IS OF BULK AT MOST 1048576: true; the input reads as it did. -/
def natBitsUptoRow : OpenClaim := { program := "ytdgbeejhccogpaadoor", sum := "ac089fa3c1283d64270a5805d48742701bd44f677962a74c0c37f70579250997", func := "samphire/samphirelaw02.NatBits", spec := "natBits", inPlace := ["internal/bytealg.IndexByteString", "internal/bytealg.IndexString"], named := ["unicode/utf8.first", "unicode/utf8.acceptRanges", "internal/bytealg.MaxLen"], apart := false, laid := [("unicode/utf8.acceptRanges", laid_unicode_utf8_acceptRanges), ("unicode/utf8.first", laid_unicode_utf8_first)], narrowed := true }
def NatBitsUptoSaid : Prop := natBitsUptoRow.holds Tryd.pinned (OpenSpec.upto natBitsSpec)

/-- 'samphirelaw02.NatSquares', WHERE WHAT IT READS IS OF BULK AT MOST 1048576: true; the input reads as it did. -/
def natSquaresUptoRow : OpenClaim := { program := "ytdgbeejhccogpaadoor", sum := "ac089fa3c1283d64270a5805d48742701bd44f677962a74c0c37f70579250997", func := "samphire/samphirelaw02.NatSquares", spec := "natSquares", inPlace := ["internal/bytealg.IndexByteString", "internal/bytealg.IndexString"], named := ["unicode/utf8.first", "unicode/utf8.acceptRanges", "internal/bytealg.MaxLen"], apart := false, laid := [("unicode/utf8.acceptRanges", laid_unicode_utf8_acceptRanges), ("unicode/utf8.first", laid_unicode_utf8_first)], narrowed := true }
def NatSquaresUptoSaid : Prop := natSquaresUptoRow.holds Tryd.pinned (OpenSpec.upto natSquaresSpec)

/-- 'samphirelaw02.NatWide', WHERE WHAT IT READS IS OF BULK AT MOST 1048576: true; the input reads as it did. -/
def natWideUptoRow : OpenClaim := { program := "ytdgbeejhccogpaadoor", sum := "ac089fa3c1283d64270a5805d48742701bd44f677962a74c0c37f70579250997", func := "samphire/samphirelaw02.NatWide", spec := "natWide", inPlace := ["math/bits.Add64", "internal/bytealg.IndexByteString", "internal/bytealg.IndexString", "math/bits.Sub64"], named := ["unicode/utf8.first", "unicode/utf8.acceptRanges", "math/bits.divideError", "math/bits.overflowError", "internal/bytealg.MaxLen"], apart := false, laid := [("unicode/utf8.acceptRanges", laid_unicode_utf8_acceptRanges), ("unicode/utf8.first", laid_unicode_utf8_first)], narrowed := true }
def NatWideUptoSaid : Prop := natWideUptoRow.holds Tryd.pinned (OpenSpec.upto natWideSpec)

end Rows
end Go.Proofs.YtdgbeejhccogpaaDoor
