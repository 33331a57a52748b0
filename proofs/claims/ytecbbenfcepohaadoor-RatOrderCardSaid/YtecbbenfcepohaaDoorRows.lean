/-
  NARROWER THAN 'FOR EVERY INPUT', by the rows' own cells (each row's printed sentence says how): RatMakes: laid · RatOrder: laid · RatMiddle: laid · RatScale: laid · RatTells: laid · RatLaws: laid · RatBack: laid.
  DERIVED. THE GIVEN ROWS OF THIS SEAT. 7 by the template 'for every input the law returns true; each argument reads behind the call as it read before'; 0 by the template 'total and deterministic' (their statements: YtecbbenfcepohaaDoorTotals.lean).
  GIVEN WITH THE SEED: the statements are not yours to turn. If you find one false, say at which input.
  Laid BY PROGRAM, IN A SANDBOX (cutbox-rows.mjs): the forced cells as the released guide's own fill.sh prints them over the translation 4b88d47edb0406f5… (all of the seat's roots in one cut). By AI agents, Wed Nov 11 2026. No macro, syntax, notation, axiom, sorry.
-/
import Derived.Test.YtecbbenfcepohaaDoorChecked
import GoSem.PinnedTables
import GoSem.Claim
import GoSem.ClaimJoined
import GoSem.ClaimMapViews
import Derived.JoinedTies
import Derived.KernelRfl
namespace Go.Proofs.YtecbbenfcepohaaDoor
/- THE CELL 'sum', in the pinned program and in every row, IS THE sha256 OF THE DUMP (.gsa) THAT YtecbbenfcepohaaDoorProg.lean LOADS. Nothing in Lean hashes anything: it is a label: what it is worth is what the hold of that sum in a sandbox is worth. -/
noncomputable def Tryd.pinned : Pinned := { name := "ytecbbenfcepohaadoor", sum := "4b88d47edb0406f508365b5bf24efde784306ccda56b857467abafdd7069811d", checked := Tryd.checked }
namespace Rows
def none {H : Type} : Left H := { results := [], args := [] }

/- WHAT THE LISTED PACKAGE-LEVEL VARIABLES READ AS WHEN THE CALL BEGINS. Each datum BY PROGRAM (the guide's laid-datum.mjs) off the statement by which the dump's own 'gosem.cut.vars' lays the variable. In a bare row this is a premise. The card (YtecbbenfcepohaaDoorCards.lean) ties it to the program's text. -/
def laid_unicode_utf8_acceptRanges {H : Type} : DataW H := .agg [.agg [.lit (.int .u8 128), .lit (.int .u8 191)], .agg [.lit (.int .u8 160), .lit (.int .u8 191)], .agg [.lit (.int .u8 128), .lit (.int .u8 159)], .agg [.lit (.int .u8 144), .lit (.int .u8 191)], .agg [.lit (.int .u8 128), .lit (.int .u8 143)], .agg [.lit (.int .u8 0), .lit (.int .u8 0)], .agg [.lit (.int .u8 0), .lit (.int .u8 0)], .agg [.lit (.int .u8 0), .lit (.int .u8 0)], .agg [.lit (.int .u8 0), .lit (.int .u8 0)], .agg [.lit (.int .u8 0), .lit (.int .u8 0)], .agg [.lit (.int .u8 0), .lit (.int .u8 0)], .agg [.lit (.int .u8 0), .lit (.int .u8 0)], .agg [.lit (.int .u8 0), .lit (.int .u8 0)], .agg [.lit (.int .u8 0), .lit (.int .u8 0)], .agg [.lit (.int .u8 0), .lit (.int .u8 0)], .agg [.lit (.int .u8 0), .lit (.int .u8 0)]]
/-- One of Go's own tables, pinned by name: the form's constant. -/
def laid_unicode_utf8_first : DataW Unit := Go.Pinned.utf8First

/-- 'samphirelaw03.RatMakes': WHATEVER THE INPUT: true; the input reads as it did. -/
def ratMakesSpec : ChangeSpec := { name := "ratMakes", fn := fun _ => fun
  | [d1, d2, d3] => { results := [.lit (.bool true)], args := [d1, d2, d3] }
  | _ => none }
def ratMakesRow : OpenClaim := { program := "ytecbbenfcepohaadoor", sum := "4b88d47edb0406f508365b5bf24efde784306ccda56b857467abafdd7069811d", func := "samphire/samphirelaw03.RatMakes", spec := "ratMakes", inPlace := ["internal/bytealg.IndexByteString", "internal/bytealg.IndexString"], unfollowed := true, recurses := true, named := ["unicode/utf8.first", "unicode/utf8.acceptRanges", "internal/bytealg.MaxLen"], apart := false, laid := [("unicode/utf8.acceptRanges", laid_unicode_utf8_acceptRanges), ("unicode/utf8.first", laid_unicode_utf8_first)] }
def RatMakesSaid : Prop := ratMakesRow.holds Tryd.pinned (OpenSpec.ofChange ratMakesSpec)

/-- ITS FALSE NEIGHBOUR: 'it returns false'. Refute it at one input. -/
def ratMakesWrong : ChangeSpec := { name := "ratMakes", fn := fun _ => fun
  | [d1, d2, d3] => { results := [.lit (.bool false)], args := [d1, d2, d3] }
  | _ => none }
def RatMakesWrongFalsely : Prop := ratMakesRow.holds Tryd.pinned (OpenSpec.ofChange ratMakesWrong)

/-- 'samphirelaw03.RatOrder': WHATEVER THE INPUT: true; the input reads as it did. -/
def ratOrderSpec : ChangeSpec := { name := "ratOrder", fn := fun _ => fun
  | [d1, d2, d3] => { results := [.lit (.bool true)], args := [d1, d2, d3] }
  | _ => none }
def ratOrderRow : OpenClaim := { program := "ytecbbenfcepohaadoor", sum := "4b88d47edb0406f508365b5bf24efde784306ccda56b857467abafdd7069811d", func := "samphire/samphirelaw03.RatOrder", spec := "ratOrder", inPlace := ["internal/bytealg.IndexByteString", "internal/bytealg.IndexString"], unfollowed := true, recurses := true, named := ["unicode/utf8.first", "unicode/utf8.acceptRanges", "internal/bytealg.MaxLen"], apart := false, laid := [("unicode/utf8.acceptRanges", laid_unicode_utf8_acceptRanges), ("unicode/utf8.first", laid_unicode_utf8_first)] }
def RatOrderSaid : Prop := ratOrderRow.holds Tryd.pinned (OpenSpec.ofChange ratOrderSpec)

/-- ITS FALSE NEIGHBOUR: 'it returns false'. Refute it at one input. -/
def ratOrderWrong : ChangeSpec := { name := "ratOrder", fn := fun _ => fun
  | [d1, d2, d3] => { results := [.lit (.bool false)], args := [d1, d2, d3] }
  | _ => none }
def RatOrderWrongFalsely : Prop := ratOrderRow.holds Tryd.pinned (OpenSpec.ofChange ratOrderWrong)

/-- 'samphirelaw03.RatMiddle': WHATEVER THE INPUT: true; the input reads as it did. -/
def ratMiddleSpec : ChangeSpec := { name := "ratMiddle", fn := fun _ => fun
  | [d1, d2] => { results := [.lit (.bool true)], args := [d1, d2] }
  | _ => none }
def ratMiddleRow : OpenClaim := { program := "ytecbbenfcepohaadoor", sum := "4b88d47edb0406f508365b5bf24efde784306ccda56b857467abafdd7069811d", func := "samphire/samphirelaw03.RatMiddle", spec := "ratMiddle", inPlace := ["internal/bytealg.IndexByteString", "internal/bytealg.IndexString"], unfollowed := true, recurses := true, named := ["unicode/utf8.first", "unicode/utf8.acceptRanges", "internal/bytealg.MaxLen"], apart := false, laid := [("unicode/utf8.acceptRanges", laid_unicode_utf8_acceptRanges), ("unicode/utf8.first", laid_unicode_utf8_first)] }
def RatMiddleSaid : Prop := ratMiddleRow.holds Tryd.pinned (OpenSpec.ofChange ratMiddleSpec)

/-- ITS FALSE NEIGHBOUR: 'it returns false'. Refute it at one input. -/
def ratMiddleWrong : ChangeSpec := { name := "ratMiddle", fn := fun _ => fun
  | [d1, d2] => { results := [.lit (.bool false)], args := [d1, d2] }
  | _ => none }
def RatMiddleWrongFalsely : Prop := ratMiddleRow.holds Tryd.pinned (OpenSpec.ofChange ratMiddleWrong)

/-- 'samphirelaw03.RatScale': WHATEVER THE INPUT: true; the input reads as it did. -/
def ratScaleSpec : ChangeSpec := { name := "ratScale", fn := fun _ => fun
  | [d1, d2] => { results := [.lit (.bool true)], args := [d1, d2] }
  | _ => none }
def ratScaleRow : OpenClaim := { program := "ytecbbenfcepohaadoor", sum := "4b88d47edb0406f508365b5bf24efde784306ccda56b857467abafdd7069811d", func := "samphire/samphirelaw03.RatScale", spec := "ratScale", inPlace := ["internal/bytealg.IndexByteString", "internal/bytealg.IndexString"], unfollowed := true, recurses := true, named := ["unicode/utf8.first", "unicode/utf8.acceptRanges", "internal/bytealg.MaxLen"], apart := false, laid := [("unicode/utf8.acceptRanges", laid_unicode_utf8_acceptRanges), ("unicode/utf8.first", laid_unicode_utf8_first)] }
def RatScaleSaid : Prop := ratScaleRow.holds Tryd.pinned (OpenSpec.ofChange ratScaleSpec)

/-- ITS FALSE NEIGHBOUR: 'it returns false'. Refute it at one input. -/
def ratScaleWrong : ChangeSpec := { name := "ratScale", fn := fun _ => fun
  | [d1, d2] => { results := [.lit (.bool false)], args := [d1, d2] }
  | _ => none }
def RatScaleWrongFalsely : Prop := ratScaleRow.holds Tryd.pinned (OpenSpec.ofChange ratScaleWrong)

/-- 'samphirelaw03.RatTells': WHATEVER THE INPUT: true; the input reads as it did. -/
def ratTellsSpec : ChangeSpec := { name := "ratTells", fn := fun _ => fun
  | [d1, d2] => { results := [.lit (.bool true)], args := [d1, d2] }
  | _ => none }
def ratTellsRow : OpenClaim := { program := "ytecbbenfcepohaadoor", sum := "4b88d47edb0406f508365b5bf24efde784306ccda56b857467abafdd7069811d", func := "samphire/samphirelaw03.RatTells", spec := "ratTells", inPlace := ["internal/bytealg.IndexByteString", "internal/bytealg.IndexString"], unfollowed := true, recurses := true, named := ["unicode/utf8.first", "unicode/utf8.acceptRanges", "internal/bytealg.MaxLen"], apart := false, laid := [("unicode/utf8.acceptRanges", laid_unicode_utf8_acceptRanges), ("unicode/utf8.first", laid_unicode_utf8_first)] }
def RatTellsSaid : Prop := ratTellsRow.holds Tryd.pinned (OpenSpec.ofChange ratTellsSpec)

/-- ITS FALSE NEIGHBOUR: 'it returns false'. Refute it at one input. -/
def ratTellsWrong : ChangeSpec := { name := "ratTells", fn := fun _ => fun
  | [d1, d2] => { results := [.lit (.bool false)], args := [d1, d2] }
  | _ => none }
def RatTellsWrongFalsely : Prop := ratTellsRow.holds Tryd.pinned (OpenSpec.ofChange ratTellsWrong)

/-- 'samphirelaw03.RatLaws': WHATEVER THE INPUT: true; the input reads as it did. -/
def ratLawsSpec : ChangeSpec := { name := "ratLaws", fn := fun _ => fun
  | [d1, d2, d3] => { results := [.lit (.bool true)], args := [d1, d2, d3] }
  | _ => none }
def ratLawsRow : OpenClaim := { program := "ytecbbenfcepohaadoor", sum := "4b88d47edb0406f508365b5bf24efde784306ccda56b857467abafdd7069811d", func := "samphire/samphirelaw03.RatLaws", spec := "ratLaws", inPlace := ["internal/bytealg.IndexByteString", "internal/bytealg.IndexString"], unfollowed := true, recurses := true, named := ["unicode/utf8.first", "unicode/utf8.acceptRanges", "internal/bytealg.MaxLen"], apart := false, laid := [("unicode/utf8.acceptRanges", laid_unicode_utf8_acceptRanges), ("unicode/utf8.first", laid_unicode_utf8_first)] }
def RatLawsSaid : Prop := ratLawsRow.holds Tryd.pinned (OpenSpec.ofChange ratLawsSpec)

/-- ITS FALSE NEIGHBOUR: 'it returns false'. Refute it at one input. -/
def ratLawsWrong : ChangeSpec := { name := "ratLaws", fn := fun _ => fun
  | [d1, d2, d3] => { results := [.lit (.bool false)], args := [d1, d2, d3] }
  | _ => none }
def RatLawsWrongFalsely : Prop := ratLawsRow.holds Tryd.pinned (OpenSpec.ofChange ratLawsWrong)

/-- 'samphirelaw03.RatBack': WHATEVER THE INPUT: true; the input reads as it did. -/
def ratBackSpec : ChangeSpec := { name := "ratBack", fn := fun _ => fun
  | [d1, d2] => { results := [.lit (.bool true)], args := [d1, d2] }
  | _ => none }
def ratBackRow : OpenClaim := { program := "ytecbbenfcepohaadoor", sum := "4b88d47edb0406f508365b5bf24efde784306ccda56b857467abafdd7069811d", func := "samphire/samphirelaw03.RatBack", spec := "ratBack", inPlace := ["internal/bytealg.IndexByteString", "internal/bytealg.IndexString"], unfollowed := true, recurses := true, named := ["unicode/utf8.first", "unicode/utf8.acceptRanges", "internal/bytealg.MaxLen"], apart := false, laid := [("unicode/utf8.acceptRanges", laid_unicode_utf8_acceptRanges), ("unicode/utf8.first", laid_unicode_utf8_first)] }
def RatBackSaid : Prop := ratBackRow.holds Tryd.pinned (OpenSpec.ofChange ratBackSpec)

/-- ITS FALSE NEIGHBOUR: 'it returns false'. Refute it at one input. -/
def ratBackWrong : ChangeSpec := { name := "ratBack", fn := fun _ => fun
  | [d1, d2] => { results := [.lit (.bool false)], args := [d1, d2] }
  | _ => none }
def RatBackWrongFalsely : Prop := ratBackRow.holds Tryd.pinned (OpenSpec.ofChange ratBackWrong)

/- THE SECOND FORM. 'bulk': how many values and letters a reading holds, each counted each time it is reached (what is shared counts as often as it is met; a slice's spare places count too). A statement '..UptoSaid' is the law's where the arguments, and the package variables that the reading takes, are together of bulk at most 1048576: NARROWER than '..Said'. Prove '..Said' where nothing that the law and all that it calls make is longer than what came in: it says more and counts as full. Else prove '..UptoSaid'. A law counts once. -/
mutual
def uptoBulk {H : Type} : DataW H → Nat
  | .lit (.string bytes) => bytes.length + 1
  | .lit _ => 1
  | .nil => 1
  | .ptr d => uptoBulk d + 1
  | .slice elems spare => uptoBulkAll elems + uptoBulkAll spare + 1
  | .agg parts => uptoBulkAll parts + 1
  | .iface _ d => uptoBulk d + 1
  | .map entries => uptoBulkEntries entries + 1
  | .held _ => 1
def uptoBulkAll {H : Type} : List (DataW H) → Nat
  | [] => 0
  | d :: r => uptoBulk d + uptoBulkAll r
def uptoBulkEntries {H : Type} : List (Lit × DataW H) → Nat
  | [] => 0
  | x :: r => uptoBulkEntry x + uptoBulkEntries r
def uptoBulkEntry {H : Type} : Lit × DataW H → Nat
  | (.string bytes, d) => bytes.length + uptoBulk d + 1
  | (_, d) => uptoBulk d + 1
 end
def uptoSmall : (H : Type) → List (DataW H) → Bool := fun _ ds => decide (uptoBulkAll ds ≤ 1048576)
def OpenSpec.upto (s : _root_.Go.ChangeSpec) : _root_.Go.OpenSpec := { _root_.Go.OpenSpec.ofChange s with cond := some uptoSmall }

/-- 'samphirelaw03.RatMakes', WHERE WHAT IT READS IS OF BULK AT MOST 1048576: true; the input reads as it did. -/
def ratMakesUptoRow : OpenClaim := { program := "ytecbbenfcepohaadoor", sum := "4b88d47edb0406f508365b5bf24efde784306ccda56b857467abafdd7069811d", func := "samphire/samphirelaw03.RatMakes", spec := "ratMakes", inPlace := ["internal/bytealg.IndexByteString", "internal/bytealg.IndexString"], unfollowed := true, recurses := true, named := ["unicode/utf8.first", "unicode/utf8.acceptRanges", "internal/bytealg.MaxLen"], apart := false, laid := [("unicode/utf8.acceptRanges", laid_unicode_utf8_acceptRanges), ("unicode/utf8.first", laid_unicode_utf8_first)], narrowed := true }
def RatMakesUptoSaid : Prop := ratMakesUptoRow.holds Tryd.pinned (OpenSpec.upto ratMakesSpec)

/-- 'samphirelaw03.RatOrder', WHERE WHAT IT READS IS OF BULK AT MOST 1048576: true; the input reads as it did. -/
def ratOrderUptoRow : OpenClaim := { program := "ytecbbenfcepohaadoor", sum := "4b88d47edb0406f508365b5bf24efde784306ccda56b857467abafdd7069811d", func := "samphire/samphirelaw03.RatOrder", spec := "ratOrder", inPlace := ["internal/bytealg.IndexByteString", "internal/bytealg.IndexString"], unfollowed := true, recurses := true, named := ["unicode/utf8.first", "unicode/utf8.acceptRanges", "internal/bytealg.MaxLen"], apart := false, laid := [("unicode/utf8.acceptRanges", laid_unicode_utf8_acceptRanges), ("unicode/utf8.first", laid_unicode_utf8_first)], narrowed := true }
def RatOrderUptoSaid : Prop := ratOrderUptoRow.holds Tryd.pinned (OpenSpec.upto ratOrderSpec)

/-- 'samphirelaw03.RatMiddle', WHERE WHAT IT READS IS OF BULK AT MOST 1048576: true; the input reads as it did. -/
def ratMiddleUptoRow : OpenClaim := { program := "ytecbbenfcepohaadoor", sum := "4b88d47edb0406f508365b5bf24efde784306ccda56b857467abafdd7069811d", func := "samphire/samphirelaw03.RatMiddle", spec := "ratMiddle", inPlace := ["internal/bytealg.IndexByteString", "internal/bytealg.IndexString"], unfollowed := true, recurses := true, named := ["unicode/utf8.first", "unicode/utf8.acceptRanges", "internal/bytealg.MaxLen"], apart := false, laid := [("unicode/utf8.acceptRanges", laid_unicode_utf8_acceptRanges), ("unicode/utf8.first", laid_unicode_utf8_first)], narrowed := true }
def RatMiddleUptoSaid : Prop := ratMiddleUptoRow.holds Tryd.pinned (OpenSpec.upto ratMiddleSpec)

/-- 'samphirelaw03.RatScale', WHERE WHAT IT READS IS OF BULK AT MOST 1048576: true; the input reads as it did. -/
def ratScaleUptoRow : OpenClaim := { program := "ytecbbenfcepohaadoor", sum := "4b88d47edb0406f508365b5bf24efde784306ccda56b857467abafdd7069811d", func := "samphire/samphirelaw03.RatScale", spec := "ratScale", inPlace := ["internal/bytealg.IndexByteString", "internal/bytealg.IndexString"], unfollowed := true, recurses := true, named := ["unicode/utf8.first", "unicode/utf8.acceptRanges", "internal/bytealg.MaxLen"], apart := false, laid := [("unicode/utf8.acceptRanges", laid_unicode_utf8_acceptRanges), ("unicode/utf8.first", laid_unicode_utf8_first)], narrowed := true }
def RatScaleUptoSaid : Prop := ratScaleUptoRow.holds Tryd.pinned (OpenSpec.upto ratScaleSpec)

/-- 'samphirelaw03.RatTells', WHERE WHAT IT READS IS OF BULK AT MOST 1048576: true; the input reads as it did. -/
def ratTellsUptoRow : OpenClaim := { program := "ytecbbenfcepohaadoor", sum := "4b88d47edb0406f508365b5bf24efde784306ccda56b857467abafdd7069811d", func := "samphire/samphirelaw03.RatTells", spec := "ratTells", inPlace := ["internal/bytealg.IndexByteString", "internal/bytealg.IndexString"], unfollowed := true, recurses := true, named := ["unicode/utf8.first", "unicode/utf8.acceptRanges", "internal/bytealg.MaxLen"], apart := false, laid := [("unicode/utf8.acceptRanges", laid_unicode_utf8_acceptRanges), ("unicode/utf8.first", laid_unicode_utf8_first)], narrowed := true }
def RatTellsUptoSaid : Prop := ratTellsUptoRow.holds Tryd.pinned (OpenSpec.upto ratTellsSpec)

/-- 'samphirelaw03.RatLaws', WHERE WHAT IT READS IS OF BULK AT MOST 1048576: true; the input reads as it did. -/
def ratLawsUptoRow : OpenClaim := { program := "ytecbbenfcepohaadoor", sum := "4b88d47edb0406f508365b5bf24efde784306ccda56b857467abafdd7069811d", func := "samphire/samphirelaw03.RatLaws", spec := "ratLaws", inPlace := ["internal/bytealg.IndexByteString", "internal/bytealg.IndexString"], unfollowed := true, recurses := true, named := ["unicode/utf8.first", "unicode/utf8.acceptRanges", "internal/bytealg.MaxLen"], apart := false, laid := [("unicode/utf8.acceptRanges", laid_unicode_utf8_acceptRanges), ("unicode/utf8.first", laid_unicode_utf8_first)], narrowed := true }
def RatLawsUptoSaid : Prop := ratLawsUptoRow.holds Tryd.pinned (OpenSpec.upto ratLawsSpec)

/-- 'samphirelaw03.RatBack', WHERE WHAT IT READS IS OF BULK AT MOST 1048576: true; the input reads as it did. -/
def ratBackUptoRow : OpenClaim := { program := "ytecbbenfcepohaadoor", sum := "4b88d47edb0406f508365b5bf24efde784306ccda56b857467abafdd7069811d", func := "samphire/samphirelaw03.RatBack", spec := "ratBack", inPlace := ["internal/bytealg.IndexByteString", "internal/bytealg.IndexString"], unfollowed := true, recurses := true, named := ["unicode/utf8.first", "unicode/utf8.acceptRanges", "internal/bytealg.MaxLen"], apart := false, laid := [("unicode/utf8.acceptRanges", laid_unicode_utf8_acceptRanges), ("unicode/utf8.first", laid_unicode_utf8_first)], narrowed := true }
def RatBackUptoSaid : Prop := ratBackUptoRow.holds Tryd.pinned (OpenSpec.upto ratBackSpec)

end Rows
end Go.Proofs.YtecbbenfcepohaaDoor
