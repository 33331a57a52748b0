/-
  NARROWER THAN 'FOR EVERY INPUT', by the rows' own cells (each row's printed sentence says how): KeepFirst: laid · KeepCuts: laid · KeepStays: laid · KeepMerges: laid · KeepThreshold: laid.
  DERIVED. THE GIVEN ROWS OF THIS SEAT. 5 by the template 'for every input the law returns true; each argument reads behind the call as it read before'; 0 by the template 'total and deterministic' (their statements: YtmndbhgbngkakaaDoorTotals.lean).
  GIVEN WITH THE SEED: the statements are not yours to turn. If you find one false, say at which input.
  Laid BY PROGRAM, IN A SANDBOX (cutbox-rows.mjs): the forced cells as the released guide's own fill.sh prints them over the translation e7e2cafc315400e0… (all of the seat's roots in one cut). By AI agents, Wed Nov 11 2026. No macro, syntax, notation, axiom, sorry.
-/
import Derived.Test.YtmndbhgbngkakaaDoorChecked
import GoSem.PinnedTables
import GoSem.Claim
import GoSem.ClaimJoined
import GoSem.ClaimMapViews
import Derived.JoinedTies
import Derived.KernelRfl
namespace Go.Proofs.YtmndbhgbngkakaaDoor
/- THE CELL 'sum', in the pinned program and in every row, IS THE sha256 OF THE DUMP (.gsa) THAT YtmndbhgbngkakaaDoorProg.lean LOADS. Nothing in Lean hashes anything: it is a label: what it is worth is what the hold of that sum in a sandbox is worth. -/
noncomputable def Tryd.pinned : Pinned := { name := "ytmndbhgbngkakaadoor", sum := "e7e2cafc315400e0c94aa39be445b090a87e098ed3c886f14a375f72b624a947", checked := Tryd.checked }
namespace Rows
def none {H : Type} : Left H := { results := [], args := [] }

/- WHAT THE LISTED PACKAGE-LEVEL VARIABLES READ AS WHEN THE CALL BEGINS. Each datum BY PROGRAM (the guide's laid-datum.mjs) off the statement by which the dump's own 'gosem.cut.vars' lays the variable. In a bare row this is a premise. The card (YtmndbhgbngkakaaDoorCards.lean) ties it to the program's text. -/
def laid_unicode_utf8_acceptRanges {H : Type} : DataW H := .agg [.agg [.lit (.int .u8 128), .lit (.int .u8 191)], .agg [.lit (.int .u8 160), .lit (.int .u8 191)], .agg [.lit (.int .u8 128), .lit (.int .u8 159)], .agg [.lit (.int .u8 144), .lit (.int .u8 191)], .agg [.lit (.int .u8 128), .lit (.int .u8 143)], .agg [.lit (.int .u8 0), .lit (.int .u8 0)], .agg [.lit (.int .u8 0), .lit (.int .u8 0)], .agg [.lit (.int .u8 0), .lit (.int .u8 0)], .agg [.lit (.int .u8 0), .lit (.int .u8 0)], .agg [.lit (.int .u8 0), .lit (.int .u8 0)], .agg [.lit (.int .u8 0), .lit (.int .u8 0)], .agg [.lit (.int .u8 0), .lit (.int .u8 0)], .agg [.lit (.int .u8 0), .lit (.int .u8 0)], .agg [.lit (.int .u8 0), .lit (.int .u8 0)], .agg [.lit (.int .u8 0), .lit (.int .u8 0)], .agg [.lit (.int .u8 0), .lit (.int .u8 0)]]
/-- One of Go's own tables, pinned by name: the form's constant. -/
def laid_unicode_utf8_first : DataW Unit := Go.Pinned.utf8First

/-- 'samphirelaw13.KeepFirst': WHATEVER THE INPUT: true; the input reads as it did. -/
def keepFirstSpec : ChangeSpec := { name := "keepFirst", fn := fun _ => fun
  | [d1, d2] => { results := [.lit (.bool true)], args := [d1, d2] }
  | _ => none }
def keepFirstRow : OpenClaim := { program := "ytmndbhgbngkakaadoor", sum := "e7e2cafc315400e0c94aa39be445b090a87e098ed3c886f14a375f72b624a947", func := "samphire/samphirelaw13.KeepFirst", spec := "keepFirst", inPlace := ["internal/bytealg.abigen_runtime_cmpstring", "slices.overlaps[samphire/api.Item]", "internal/bytealg.IndexByteString", "internal/bytealg.IndexString"], unfollowed := true, recurses := true, named := ["unicode/utf8.first", "unicode/utf8.acceptRanges", "internal/bytealg.MaxLen"], apart := false, laid := [("unicode/utf8.acceptRanges", laid_unicode_utf8_acceptRanges), ("unicode/utf8.first", laid_unicode_utf8_first)] }
def KeepFirstSaid : Prop := keepFirstRow.holds Tryd.pinned (OpenSpec.ofChange keepFirstSpec)

/-- ITS FALSE NEIGHBOUR: 'it returns false'. Refute it at one input. -/
def keepFirstWrong : ChangeSpec := { name := "keepFirst", fn := fun _ => fun
  | [d1, d2] => { results := [.lit (.bool false)], args := [d1, d2] }
  | _ => none }
def KeepFirstWrongFalsely : Prop := keepFirstRow.holds Tryd.pinned (OpenSpec.ofChange keepFirstWrong)

/-- 'samphirelaw13.KeepCuts': WHATEVER THE INPUT: true; the input reads as it did. -/
def keepCutsSpec : ChangeSpec := { name := "keepCuts", fn := fun _ => fun
  | [d1, d2, d3] => { results := [.lit (.bool true)], args := [d1, d2, d3] }
  | _ => none }
def keepCutsRow : OpenClaim := { program := "ytmndbhgbngkakaadoor", sum := "e7e2cafc315400e0c94aa39be445b090a87e098ed3c886f14a375f72b624a947", func := "samphire/samphirelaw13.KeepCuts", spec := "keepCuts", inPlace := ["internal/bytealg.abigen_runtime_cmpstring", "slices.overlaps[samphire/api.Item]", "internal/bytealg.IndexByteString", "internal/bytealg.IndexString"], unfollowed := true, recurses := true, named := ["unicode/utf8.first", "unicode/utf8.acceptRanges", "internal/bytealg.MaxLen"], apart := false, laid := [("unicode/utf8.acceptRanges", laid_unicode_utf8_acceptRanges), ("unicode/utf8.first", laid_unicode_utf8_first)] }
def KeepCutsSaid : Prop := keepCutsRow.holds Tryd.pinned (OpenSpec.ofChange keepCutsSpec)

/-- ITS FALSE NEIGHBOUR: 'it returns false'. Refute it at one input. -/
def keepCutsWrong : ChangeSpec := { name := "keepCuts", fn := fun _ => fun
  | [d1, d2, d3] => { results := [.lit (.bool false)], args := [d1, d2, d3] }
  | _ => none }
def KeepCutsWrongFalsely : Prop := keepCutsRow.holds Tryd.pinned (OpenSpec.ofChange keepCutsWrong)

/-- 'samphirelaw13.KeepStays': WHATEVER THE INPUT: true; the input reads as it did. -/
def keepStaysSpec : ChangeSpec := { name := "keepStays", fn := fun _ => fun
  | [d1, d2, d3] => { results := [.lit (.bool true)], args := [d1, d2, d3] }
  | _ => none }
def keepStaysRow : OpenClaim := { program := "ytmndbhgbngkakaadoor", sum := "e7e2cafc315400e0c94aa39be445b090a87e098ed3c886f14a375f72b624a947", func := "samphire/samphirelaw13.KeepStays", spec := "keepStays", inPlace := ["internal/bytealg.abigen_runtime_cmpstring", "slices.overlaps[samphire/api.Item]", "internal/bytealg.IndexByteString", "internal/bytealg.IndexString"], unfollowed := true, recurses := true, named := ["unicode/utf8.first", "unicode/utf8.acceptRanges", "internal/bytealg.MaxLen"], apart := false, laid := [("unicode/utf8.acceptRanges", laid_unicode_utf8_acceptRanges), ("unicode/utf8.first", laid_unicode_utf8_first)] }
def KeepStaysSaid : Prop := keepStaysRow.holds Tryd.pinned (OpenSpec.ofChange keepStaysSpec)

/-- ITS FALSE NEIGHBOUR: 'it returns false'. Refute it at one input. -/
def keepStaysWrong : ChangeSpec := { name := "keepStays", fn := fun _ => fun
  | [d1, d2, d3] => { results := [.lit (.bool false)], args := [d1, d2, d3] }
  | _ => none }
def KeepStaysWrongFalsely : Prop := keepStaysRow.holds Tryd.pinned (OpenSpec.ofChange keepStaysWrong)

/-- 'samphirelaw13.KeepMerges': WHATEVER THE INPUT: true; the input reads as it did. -/
def keepMergesSpec : ChangeSpec := { name := "keepMerges", fn := fun _ => fun
  | [d1, d2, d3, d4] => { results := [.lit (.bool true)], args := [d1, d2, d3, d4] }
  | _ => none }
def keepMergesRow : OpenClaim := { program := "ytmndbhgbngkakaadoor", sum := "e7e2cafc315400e0c94aa39be445b090a87e098ed3c886f14a375f72b624a947", func := "samphire/samphirelaw13.KeepMerges", spec := "keepMerges", inPlace := ["internal/bytealg.abigen_runtime_cmpstring", "slices.overlaps[samphire/api.Item]", "internal/bytealg.IndexByteString", "internal/bytealg.IndexString"], unfollowed := true, recurses := true, named := ["unicode/utf8.first", "unicode/utf8.acceptRanges", "internal/bytealg.MaxLen"], apart := false, laid := [("unicode/utf8.acceptRanges", laid_unicode_utf8_acceptRanges), ("unicode/utf8.first", laid_unicode_utf8_first)] }
def KeepMergesSaid : Prop := keepMergesRow.holds Tryd.pinned (OpenSpec.ofChange keepMergesSpec)

/-- ITS FALSE NEIGHBOUR: 'it returns false'. Refute it at one input. -/
def keepMergesWrong : ChangeSpec := { name := "keepMerges", fn := fun _ => fun
  | [d1, d2, d3, d4] => { results := [.lit (.bool false)], args := [d1, d2, d3, d4] }
  | _ => none }
def KeepMergesWrongFalsely : Prop := keepMergesRow.holds Tryd.pinned (OpenSpec.ofChange keepMergesWrong)

/-- 'samphirelaw13.KeepThreshold': WHATEVER THE INPUT: true; the input reads as it did. -/
def keepThresholdSpec : ChangeSpec := { name := "keepThreshold", fn := fun _ => fun
  | [d1, d2, d3] => { results := [.lit (.bool true)], args := [d1, d2, d3] }
  | _ => none }
def keepThresholdRow : OpenClaim := { program := "ytmndbhgbngkakaadoor", sum := "e7e2cafc315400e0c94aa39be445b090a87e098ed3c886f14a375f72b624a947", func := "samphire/samphirelaw13.KeepThreshold", spec := "keepThreshold", inPlace := ["internal/bytealg.abigen_runtime_cmpstring", "slices.overlaps[samphire/api.Item]", "internal/bytealg.IndexByteString", "internal/bytealg.IndexString"], unfollowed := true, recurses := true, named := ["unicode/utf8.first", "unicode/utf8.acceptRanges", "internal/bytealg.MaxLen"], apart := false, laid := [("unicode/utf8.acceptRanges", laid_unicode_utf8_acceptRanges), ("unicode/utf8.first", laid_unicode_utf8_first)] }
def KeepThresholdSaid : Prop := keepThresholdRow.holds Tryd.pinned (OpenSpec.ofChange keepThresholdSpec)

/-- ITS FALSE NEIGHBOUR: 'it returns false'. Refute it at one input. -/
def keepThresholdWrong : ChangeSpec := { name := "keepThreshold", fn := fun _ => fun
  | [d1, d2, d3] => { results := [.lit (.bool false)], args := [d1, d2, d3] }
  | _ => none }
def KeepThresholdWrongFalsely : Prop := keepThresholdRow.holds Tryd.pinned (OpenSpec.ofChange keepThresholdWrong)

/- THE SECOND FORM. 'bulk': how many values and letters a reading holds, each counted each time it is reached (what is shared counts as often as it is met; a slice's spare places count too). A statement '..UptoSaid' is the law's where the arguments, and the package variables that the reading takes, are together of bulk at most 1048576: NARROWER than '..Said'. Prove '..Said' where nothing that the law and all that it calls make is longer than what came in: it says more and counts as full. Else prove '..UptoSaid'. A law counts once. -/
mutual
def uptoBulk {H : Type} : DataW H → Nat
  | .lit (.string bytes) => bytes.length + 1
  | .lit _ => 1
  | .nil => 1
  | .ptr d => uptoBulk d + 1
  | .slice elems spare => uptoBulkAll elems + uptoBulkAll spare + 1
  | .agg parts => uptoBulkAll parts + 1
  | .iface _ d => uptoBulk d + 1
  | .map entries => uptoBulkEntries entries + 1
  | .held _ => 1
def uptoBulkAll {H : Type} : List (DataW H) → Nat
  | [] => 0
  | d :: r => uptoBulk d + uptoBulkAll r
def uptoBulkEntries {H : Type} : List (Lit × DataW H) → Nat
  | [] => 0
  | x :: r => uptoBulkEntry x + uptoBulkEntries r
def uptoBulkEntry {H : Type} : Lit × DataW H → Nat
  | (.string bytes, d) => bytes.length + uptoBulk d + 1
  | (_, d) => uptoBulk d + 1
 end
def uptoSmall : (H : Type) → List (DataW H) → Bool := fun _ ds => decide (uptoBulkAll ds ≤ 1048576)
def OpenSpec.upto (s : _root_.Go.ChangeSpec) : _root_.Go.OpenSpec := { _root_.Go.OpenSpec.ofChange s with cond := some uptoSmall }

/-- 'samphirelaw13.KeepFirst', WHERE WHAT IT READS IS OF BULK AT MOST 1048576: true; the input reads as it did. -/
def keepFirstUptoRow : OpenClaim := { program := "ytmndbhgbngkakaadoor", sum := "e7e2cafc315400e0c94aa39be445b090a87e098ed3c886f14a375f72b624a947", func := "samphire/samphirelaw13.KeepFirst", spec := "keepFirst", inPlace := ["internal/bytealg.abigen_runtime_cmpstring", "slices.overlaps[samphire/api.Item]", "internal/bytealg.IndexByteString", "internal/bytealg.IndexString"], unfollowed := true, recurses := true, named := ["unicode/utf8.first", "unicode/utf8.acceptRanges", "internal/bytealg.MaxLen"], apart := false, laid := [("unicode/utf8.acceptRanges", laid_unicode_utf8_acceptRanges), ("unicode/utf8.first", laid_unicode_utf8_first)], narrowed := true }
def KeepFirstUptoSaid : Prop := keepFirstUptoRow.holds Tryd.pinned (OpenSpec.upto keepFirstSpec)

/-- 'samphirelaw13.KeepCuts', WHERE WHAT IT READS IS OF BULK AT MOST 1048576: true; the input reads as it did. -/
def keepCutsUptoRow : OpenClaim := { program := "ytmndbhgbngkakaadoor", sum := "e7e2cafc315400e0c94aa39be445b090a87e098ed3c886f14a375f72b624a947", func := "samphire/samphirelaw13.KeepCuts", spec := "keepCuts", inPlace := ["internal/bytealg.abigen_runtime_cmpstring", "slices.overlaps[samphire/api.Item]", "internal/bytealg.IndexByteString", "internal/bytealg.IndexString"], unfollowed := true, recurses := true, named := ["unicode/utf8.first", "unicode/utf8.acceptRanges", "internal/bytealg.MaxLen"], apart := false, laid := [("unicode/utf8.acceptRanges", laid_unicode_utf8_acceptRanges), ("unicode/utf8.first", laid_unicode_utf8_first)], narrowed := true }
def KeepCutsUptoSaid : Prop := keepCutsUptoRow.holds Tryd.pinned (OpenSpec.upto keepCutsSpec)

/-- 'samphirelaw13.KeepStays', WHERE WHAT IT READS IS OF BULK AT MOST 1048576: true; the input reads as it did. -/
def keepStaysUptoRow : OpenClaim := { program := "ytmndbhgbngkakaadoor", sum := "e7e2cafc315400e0c94aa39be445b090a87e098ed3c886f14a375f72b624a947", func := "samphire/samphirelaw13.KeepStays", spec := "keepStays", inPlace := ["internal/bytealg.abigen_runtime_cmpstring", "slices.overlaps[samphire/api.Item]", "internal/bytealg.IndexByteString", "internal/bytealg.IndexString"], unfollowed := true, recurses := true, named := ["unicode/utf8.first", "unicode/utf8.acceptRanges", "internal/bytealg.MaxLen"], apart := false, laid := [("unicode/utf8.acceptRanges", laid_unicode_utf8_acceptRanges), ("unicode/utf8.first", laid_unicode_utf8_first)], narrowed := true }
def KeepStaysUptoSaid : Prop := keepStaysUptoRow.holds Tryd.pinned (OpenSpec.upto keepStaysSpec)

/-- 'samphirelaw13.KeepMerges', WHERE WHAT IT READS IS OF BULK AT MOST 1048576: true; the input reads as it did. -/
def keepMergesUptoRow : OpenClaim := { program := "ytmndbhgbngkakaadoor", sum := "e7e2cafc315400e0c94aa39be445b090a87e098ed3c886f14a375f72b624a947", func := "samphire/samphirelaw13.KeepMerges", spec := "keepMerges", inPlace := ["internal/bytealg.abigen_runtime_cmpstring", "slices.overlaps[samphire/api.Item]", "internal/bytealg.IndexByteString", "internal/bytealg.IndexString"], unfollowed := true, recurses := true, named := ["unicode/utf8.first", "unicode/utf8.acceptRanges", "internal/bytealg.MaxLen"], apart := false, laid := [("unicode/utf8.acceptRanges", laid_unicode_utf8_acceptRanges), ("unicode/utf8.first", laid_unicode_utf8_first)], narrowed := true }
def KeepMergesUptoSaid : Prop := keepMergesUptoRow.holds Tryd.pinned (OpenSpec.upto keepMergesSpec)

/-- 'samphirelaw13.KeepThreshold', WHERE WHAT IT READS IS OF BULK AT MOST 1048576: true; the input reads as it did. -/
def keepThresholdUptoRow : OpenClaim := { program := "ytmndbhgbngkakaadoor", sum := "e7e2cafc315400e0c94aa39be445b090a87e098ed3c886f14a375f72b624a947", func := "samphire/samphirelaw13.KeepThreshold", spec := "keepThreshold", inPlace := ["internal/bytealg.abigen_runtime_cmpstring", "slices.overlaps[samphire/api.Item]", "internal/bytealg.IndexByteString", "internal/bytealg.IndexString"], unfollowed := true, recurses := true, named := ["unicode/utf8.first", "unicode/utf8.acceptRanges", "internal/bytealg.MaxLen"], apart := false, laid := [("unicode/utf8.acceptRanges", laid_unicode_utf8_acceptRanges), ("unicode/utf8.first", laid_unicode_utf8_first)], narrowed := true }
def KeepThresholdUptoSaid : Prop := keepThresholdUptoRow.holds Tryd.pinned (OpenSpec.upto keepThresholdSpec)

end Rows
end Go.Proofs.YtmndbhgbngkakaaDoor
