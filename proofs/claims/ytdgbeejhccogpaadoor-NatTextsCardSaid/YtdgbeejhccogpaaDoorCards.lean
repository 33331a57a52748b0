/-
  DERIVED. GIVEN WITH THE SEED: THE CARDS: each row of YtdgbeejhccogpaaDoorRows.lean that lists a variable, with what it lists TIED to the program's text (the seventh form; the later family's looks); each row that meets fmt, with fmt's text TOLD by the authors' own Lean function (tested against real Go, not proved from fmt's source: count such statements apart). THE CARD IS WHAT COUNTS. Prove the row's statement (the work); the ties are given (YtdgbeejhccogpaaDoorTie.lean); close each card by the builder's one call (the guide's Derived/Test/ToyasCard.lean, 'card_holds'). Laid BY PROGRAM, IN A SANDBOX (cutbox-door.mjs). By AI agents, Wed Nov 11 2026. No macro, syntax, notation, axiom, sorry.
-/
import Derived.Test.YtdgbeejhccogpaaDoorRows
import GoSem.ClaimSeven
namespace Go.Proofs.YtdgbeejhccogpaaDoor
namespace Rows

/-- THE TIED CARD OF 'samphirelaw02.NatDivides'. -/
def natDividesCard : Claim7 := { stood := { row := natDividesRow, standIns := [], harness := (true, "2f9ab3668bb414224c8538c34d98f43dcef21611572ef0a9f06594c73572aaa1"), looks := false }, kinds := [], alts := [], laidByText := true, laidKinds := [.data, .pinned], laidTests := true, laidLooks := .later }
def NatDividesCardSaid : Prop := Claim7.holds Tryd.pinned (.plain (OpenSpec.ofChange natDividesSpec)) natDividesCard

/-- THE TIED CARD OF 'samphirelaw02.NatCommon'. -/
def natCommonCard : Claim7 := { stood := { row := natCommonRow, standIns := [], harness := (true, "2f9ab3668bb414224c8538c34d98f43dcef21611572ef0a9f06594c73572aaa1"), looks := false }, kinds := [], alts := [], laidByText := true, laidKinds := [.data, .pinned], laidTests := true, laidLooks := .later }
def NatCommonCardSaid : Prop := Claim7.holds Tryd.pinned (.plain (OpenSpec.ofChange natCommonSpec)) natCommonCard

/-- THE TIED CARD OF 'samphirelaw02.NatTexts'. -/
def natTextsCard : Claim7 := { stood := { row := natTextsRow, standIns := [], harness := (true, "2f9ab3668bb414224c8538c34d98f43dcef21611572ef0a9f06594c73572aaa1"), looks := false }, kinds := [], alts := [], laidByText := true, laidKinds := [.data, .pinned], laidTests := true, laidLooks := .later }
def NatTextsCardSaid : Prop := Claim7.holds Tryd.pinned (.plain (OpenSpec.ofChange natTextsSpec)) natTextsCard

/-- THE TIED CARD OF 'samphirelaw02.NatSums'. -/
def natSumsCard : Claim7 := { stood := { row := natSumsRow, standIns := [], harness := (true, "2f9ab3668bb414224c8538c34d98f43dcef21611572ef0a9f06594c73572aaa1"), looks := false }, kinds := [], alts := [], laidByText := true, laidKinds := [.data, .pinned], laidTests := true, laidLooks := .later }
def NatSumsCardSaid : Prop := Claim7.holds Tryd.pinned (.plain (OpenSpec.ofChange natSumsSpec)) natSumsCard

/-- THE TIED CARD OF 'samphirelaw02.NatBack'. -/
def natBackCard : Claim7 := { stood := { row := natBackRow, standIns := [], harness := (true, "2f9ab3668bb414224c8538c34d98f43dcef21611572ef0a9f06594c73572aaa1"), looks := false }, kinds := [], alts := [], laidByText := true, laidKinds := [.data, .pinned], laidTests := true, laidLooks := .later }
def NatBackCardSaid : Prop := Claim7.holds Tryd.pinned (.plain (OpenSpec.ofChange natBackSpec)) natBackCard

/-- THE TIED CARD OF 'samphirelaw02.NatBits'. -/
def natBitsCard : Claim7 := { stood := { row := natBitsRow, standIns := [], harness := (true, "2f9ab3668bb414224c8538c34d98f43dcef21611572ef0a9f06594c73572aaa1"), looks := false }, kinds := [], alts := [], laidByText := true, laidKinds := [.data, .pinned], laidTests := true, laidLooks := .later }
def NatBitsCardSaid : Prop := Claim7.holds Tryd.pinned (.plain (OpenSpec.ofChange natBitsSpec)) natBitsCard

/-- THE TIED CARD OF 'samphirelaw02.NatSquares'. -/
def natSquaresCard : Claim7 := { stood := { row := natSquaresRow, standIns := [], harness := (true, "2f9ab3668bb414224c8538c34d98f43dcef21611572ef0a9f06594c73572aaa1"), looks := false }, kinds := [], alts := [], laidByText := true, laidKinds := [.data, .pinned], laidTests := true, laidLooks := .later }
def NatSquaresCardSaid : Prop := Claim7.holds Tryd.pinned (.plain (OpenSpec.ofChange natSquaresSpec)) natSquaresCard

/-- THE TIED CARD OF 'samphirelaw02.NatWide'. -/
def natWideCard : Claim7 := { stood := { row := natWideRow, standIns := [], harness := (true, "2f9ab3668bb414224c8538c34d98f43dcef21611572ef0a9f06594c73572aaa1"), looks := false }, kinds := [], alts := [], laidByText := true, laidKinds := [.data, .pinned], laidTests := true, laidLooks := .later }
def NatWideCardSaid : Prop := Claim7.holds Tryd.pinned (.plain (OpenSpec.ofChange natWideSpec)) natWideCard

/-- THE SECOND FORM's CARD OF 'samphirelaw02.NatDivides'. -/
def natDividesUptoCard : Claim7 := { stood := { row := natDividesUptoRow, standIns := [], harness := (true, "2f9ab3668bb414224c8538c34d98f43dcef21611572ef0a9f06594c73572aaa1"), looks := false }, kinds := [], alts := [], laidByText := true, laidKinds := [.data, .pinned], laidTests := true, laidLooks := .later }
def NatDividesUptoCardSaid : Prop := Claim7.holds Tryd.pinned (.plain (OpenSpec.upto natDividesSpec)) natDividesUptoCard

/-- THE SECOND FORM's CARD OF 'samphirelaw02.NatCommon'. -/
def natCommonUptoCard : Claim7 := { stood := { row := natCommonUptoRow, standIns := [], harness := (true, "2f9ab3668bb414224c8538c34d98f43dcef21611572ef0a9f06594c73572aaa1"), looks := false }, kinds := [], alts := [], laidByText := true, laidKinds := [.data, .pinned], laidTests := true, laidLooks := .later }
def NatCommonUptoCardSaid : Prop := Claim7.holds Tryd.pinned (.plain (OpenSpec.upto natCommonSpec)) natCommonUptoCard

/-- THE SECOND FORM's CARD OF 'samphirelaw02.NatTexts'. -/
def natTextsUptoCard : Claim7 := { stood := { row := natTextsUptoRow, standIns := [], harness := (true, "2f9ab3668bb414224c8538c34d98f43dcef21611572ef0a9f06594c73572aaa1"), looks := false }, kinds := [], alts := [], laidByText := true, laidKinds := [.data, .pinned], laidTests := true, laidLooks := .later }
def NatTextsUptoCardSaid : Prop := Claim7.holds Tryd.pinned (.plain (OpenSpec.upto natTextsSpec)) natTextsUptoCard

/-- THE SECOND FORM's CARD OF 'samphirelaw02.NatSums'. -/
def natSumsUptoCard : Claim7 := { stood := { row := natSumsUptoRow, standIns := [], harness := (true, "2f9ab3668bb414224c8538c34d98f43dcef21611572ef0a9f06594c73572aaa1"), looks := false }, kinds := [], alts := [], laidByText := true, laidKinds := [.data, .pinned], laidTests := true, laidLooks := .later }
def NatSumsUptoCardSaid : Prop := Claim7.holds Tryd.pinned (.plain (OpenSpec.upto natSumsSpec)) natSumsUptoCard

/-- THE SECOND FORM's CARD OF 'samphirelaw02.NatBack'. -/
def natBackUptoCard : Claim7 := { stood := { row := natBackUptoRow, standIns := [], harness := (true, "2f9ab3668bb414224c8538c34d98f43dcef21611572ef0a9f06594c73572aaa1"), looks := false }, kinds := [], alts := [], laidByText := true, laidKinds := [.data, .pinned], laidTests := true, laidLooks := .later }
def NatBackUptoCardSaid : Prop := Claim7.holds Tryd.pinned (.plain (OpenSpec.upto natBackSpec)) natBackUptoCard

/-- THE SECOND FORM's CARD OF 'samphirelaw02.NatBits'. -/
def natBitsUptoCard : Claim7 := { stood := { row := natBitsUptoRow, standIns := [], harness := (true, "2f9ab3668bb414224c8538c34d98f43dcef21611572ef0a9f06594c73572aaa1"), looks := false }, kinds := [], alts := [], laidByText := true, laidKinds := [.data, .pinned], laidTests := true, laidLooks := .later }
def NatBitsUptoCardSaid : Prop := Claim7.holds Tryd.pinned (.plain (OpenSpec.upto natBitsSpec)) natBitsUptoCard

/-- THE SECOND FORM's CARD OF 'samphirelaw02.NatSquares'. -/
def natSquaresUptoCard : Claim7 := { stood := { row := natSquaresUptoRow, standIns := [], harness := (true, "2f9ab3668bb414224c8538c34d98f43dcef21611572ef0a9f06594c73572aaa1"), looks := false }, kinds := [], alts := [], laidByText := true, laidKinds := [.data, .pinned], laidTests := true, laidLooks := .later }
def NatSquaresUptoCardSaid : Prop := Claim7.holds Tryd.pinned (.plain (OpenSpec.upto natSquaresSpec)) natSquaresUptoCard

/-- THE SECOND FORM's CARD OF 'samphirelaw02.NatWide'. -/
def natWideUptoCard : Claim7 := { stood := { row := natWideUptoRow, standIns := [], harness := (true, "2f9ab3668bb414224c8538c34d98f43dcef21611572ef0a9f06594c73572aaa1"), looks := false }, kinds := [], alts := [], laidByText := true, laidKinds := [.data, .pinned], laidTests := true, laidLooks := .later }
def NatWideUptoCardSaid : Prop := Claim7.holds Tryd.pinned (.plain (OpenSpec.upto natWideSpec)) natWideUptoCard
end Rows
end Go.Proofs.YtdgbeejhccogpaaDoor
