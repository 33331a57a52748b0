/-
  DERIVED. GIVEN WITH THE SEED: THE CARDS: each row of YtecbbenfcepohaaDoorRows.lean that lists a variable, with what it lists TIED to the program's text (the seventh form; the later family's looks); each row that meets fmt, with fmt's text TOLD by the authors' own Lean function (tested against real Go, not proved from fmt's source: count such statements apart). THE CARD IS WHAT COUNTS. Prove the row's statement (the work); the ties are given (YtecbbenfcepohaaDoorTie.lean); close each card by the builder's one call (the guide's Derived/Test/ToyasCard.lean, 'card_holds'). Laid BY PROGRAM, IN A SANDBOX (cutbox-door.mjs). By AI agents, Wed Nov 11 2026. No macro, syntax, notation, axiom, sorry.
-/
import Derived.Test.YtecbbenfcepohaaDoorRows
import GoSem.ClaimSeven
namespace Go.Proofs.YtecbbenfcepohaaDoor
namespace Rows

/-- THE TIED CARD OF 'samphirelaw03.RatMakes'. -/
def ratMakesCard : Claim7 := { stood := { row := ratMakesRow, standIns := [], harness := (true, "561c7a72ddfbd453f68a2f4ceb841e55fbe129854096ae621a7def2dd925f557"), looks := false }, kinds := [], alts := [], laidByText := true, laidKinds := [.data, .pinned], laidTests := true, laidLooks := .later }
def RatMakesCardSaid : Prop := Claim7.holds Tryd.pinned (.plain (OpenSpec.ofChange ratMakesSpec)) ratMakesCard

/-- THE TIED CARD OF 'samphirelaw03.RatOrder'. -/
def ratOrderCard : Claim7 := { stood := { row := ratOrderRow, standIns := [], harness := (true, "561c7a72ddfbd453f68a2f4ceb841e55fbe129854096ae621a7def2dd925f557"), looks := false }, kinds := [], alts := [], laidByText := true, laidKinds := [.data, .pinned], laidTests := true, laidLooks := .later }
def RatOrderCardSaid : Prop := Claim7.holds Tryd.pinned (.plain (OpenSpec.ofChange ratOrderSpec)) ratOrderCard

/-- THE TIED CARD OF 'samphirelaw03.RatMiddle'. -/
def ratMiddleCard : Claim7 := { stood := { row := ratMiddleRow, standIns := [], harness := (true, "561c7a72ddfbd453f68a2f4ceb841e55fbe129854096ae621a7def2dd925f557"), looks := false }, kinds := [], alts := [], laidByText := true, laidKinds := [.data, .pinned], laidTests := true, laidLooks := .later }
def RatMiddleCardSaid : Prop := Claim7.holds Tryd.pinned (.plain (OpenSpec.ofChange ratMiddleSpec)) ratMiddleCard

/-- THE TIED CARD OF 'samphirelaw03.RatScale'. -/
def ratScaleCard : Claim7 := { stood := { row := ratScaleRow, standIns := [], harness := (true, "561c7a72ddfbd453f68a2f4ceb841e55fbe129854096ae621a7def2dd925f557"), looks := false }, kinds := [], alts := [], laidByText := true, laidKinds := [.data, .pinned], laidTests := true, laidLooks := .later }
def RatScaleCardSaid : Prop := Claim7.holds Tryd.pinned (.plain (OpenSpec.ofChange ratScaleSpec)) ratScaleCard

/-- THE TIED CARD OF 'samphirelaw03.RatTells'. -/
def ratTellsCard : Claim7 := { stood := { row := ratTellsRow, standIns := [], harness := (true, "561c7a72ddfbd453f68a2f4ceb841e55fbe129854096ae621a7def2dd925f557"), looks := false }, kinds := [], alts := [], laidByText := true, laidKinds := [.data, .pinned], laidTests := true, laidLooks := .later }
def RatTellsCardSaid : Prop := Claim7.holds Tryd.pinned (.plain (OpenSpec.ofChange ratTellsSpec)) ratTellsCard

/-- THE TIED CARD OF 'samphirelaw03.RatLaws'. -/
def ratLawsCard : Claim7 := { stood := { row := ratLawsRow, standIns := [], harness := (true, "561c7a72ddfbd453f68a2f4ceb841e55fbe129854096ae621a7def2dd925f557"), looks := false }, kinds := [], alts := [], laidByText := true, laidKinds := [.data, .pinned], laidTests := true, laidLooks := .later }
def RatLawsCardSaid : Prop := Claim7.holds Tryd.pinned (.plain (OpenSpec.ofChange ratLawsSpec)) ratLawsCard

/-- THE TIED CARD OF 'samphirelaw03.RatBack'. -/
def ratBackCard : Claim7 := { stood := { row := ratBackRow, standIns := [], harness := (true, "561c7a72ddfbd453f68a2f4ceb841e55fbe129854096ae621a7def2dd925f557"), looks := false }, kinds := [], alts := [], laidByText := true, laidKinds := [.data, .pinned], laidTests := true, laidLooks := .later }
def RatBackCardSaid : Prop := Claim7.holds Tryd.pinned (.plain (OpenSpec.ofChange ratBackSpec)) ratBackCard

/-- THE SECOND FORM's CARD OF 'samphirelaw03.RatMakes'. -/
def ratMakesUptoCard : Claim7 := { stood := { row := ratMakesUptoRow, standIns := [], harness := (true, "561c7a72ddfbd453f68a2f4ceb841e55fbe129854096ae621a7def2dd925f557"), looks := false }, kinds := [], alts := [], laidByText := true, laidKinds := [.data, .pinned], laidTests := true, laidLooks := .later }
def RatMakesUptoCardSaid : Prop := Claim7.holds Tryd.pinned (.plain (OpenSpec.upto ratMakesSpec)) ratMakesUptoCard

/-- THE SECOND FORM's CARD OF 'samphirelaw03.RatOrder'. -/
def ratOrderUptoCard : Claim7 := { stood := { row := ratOrderUptoRow, standIns := [], harness := (true, "561c7a72ddfbd453f68a2f4ceb841e55fbe129854096ae621a7def2dd925f557"), looks := false }, kinds := [], alts := [], laidByText := true, laidKinds := [.data, .pinned], laidTests := true, laidLooks := .later }
def RatOrderUptoCardSaid : Prop := Claim7.holds Tryd.pinned (.plain (OpenSpec.upto ratOrderSpec)) ratOrderUptoCard

/-- THE SECOND FORM's CARD OF 'samphirelaw03.RatMiddle'. -/
def ratMiddleUptoCard : Claim7 := { stood := { row := ratMiddleUptoRow, standIns := [], harness := (true, "561c7a72ddfbd453f68a2f4ceb841e55fbe129854096ae621a7def2dd925f557"), looks := false }, kinds := [], alts := [], laidByText := true, laidKinds := [.data, .pinned], laidTests := true, laidLooks := .later }
def RatMiddleUptoCardSaid : Prop := Claim7.holds Tryd.pinned (.plain (OpenSpec.upto ratMiddleSpec)) ratMiddleUptoCard

/-- THE SECOND FORM's CARD OF 'samphirelaw03.RatScale'. -/
def ratScaleUptoCard : Claim7 := { stood := { row := ratScaleUptoRow, standIns := [], harness := (true, "561c7a72ddfbd453f68a2f4ceb841e55fbe129854096ae621a7def2dd925f557"), looks := false }, kinds := [], alts := [], laidByText := true, laidKinds := [.data, .pinned], laidTests := true, laidLooks := .later }
def RatScaleUptoCardSaid : Prop := Claim7.holds Tryd.pinned (.plain (OpenSpec.upto ratScaleSpec)) ratScaleUptoCard

/-- THE SECOND FORM's CARD OF 'samphirelaw03.RatTells'. -/
def ratTellsUptoCard : Claim7 := { stood := { row := ratTellsUptoRow, standIns := [], harness := (true, "561c7a72ddfbd453f68a2f4ceb841e55fbe129854096ae621a7def2dd925f557"), looks := false }, kinds := [], alts := [], laidByText := true, laidKinds := [.data, .pinned], laidTests := true, laidLooks := .later }
def RatTellsUptoCardSaid : Prop := Claim7.holds Tryd.pinned (.plain (OpenSpec.upto ratTellsSpec)) ratTellsUptoCard

/-- THE SECOND FORM's CARD OF 'samphirelaw03.RatLaws'. -/
def ratLawsUptoCard : Claim7 := { stood := { row := ratLawsUptoRow, standIns := [], harness := (true, "561c7a72ddfbd453f68a2f4ceb841e55fbe129854096ae621a7def2dd925f557"), looks := false }, kinds := [], alts := [], laidByText := true, laidKinds := [.data, .pinned], laidTests := true, laidLooks := .later }
def RatLawsUptoCardSaid : Prop := Claim7.holds Tryd.pinned (.plain (OpenSpec.upto ratLawsSpec)) ratLawsUptoCard

/-- THE SECOND FORM's CARD OF 'samphirelaw03.RatBack'. -/
def ratBackUptoCard : Claim7 := { stood := { row := ratBackUptoRow, standIns := [], harness := (true, "561c7a72ddfbd453f68a2f4ceb841e55fbe129854096ae621a7def2dd925f557"), looks := false }, kinds := [], alts := [], laidByText := true, laidKinds := [.data, .pinned], laidTests := true, laidLooks := .later }
def RatBackUptoCardSaid : Prop := Claim7.holds Tryd.pinned (.plain (OpenSpec.upto ratBackSpec)) ratBackUptoCard
end Rows
end Go.Proofs.YtecbbenfcepohaaDoor
