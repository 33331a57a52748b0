/-
  DERIVED. GIVEN WITH THE SEED: THE CARDS: each row of YtmbofpmjckjceaaDoorRows.lean that lists a variable, with what it lists TIED to the program's text (the seventh form; the later family's looks); each row that meets fmt, with fmt's text TOLD by the authors' own Lean function (tested against real Go, not proved from fmt's source: count such statements apart). THE CARD IS WHAT COUNTS. Prove the row's statement (the work); the ties are given (YtmbofpmjckjceaaDoorTie.lean); close each card by the builder's one call (the guide's Derived/Test/ToyasCard.lean, 'card_holds'). Laid BY PROGRAM, IN A SANDBOX (cutbox-door.mjs). By AI agents, Wed Nov 11 2026. No macro, syntax, notation, axiom, sorry.
-/
import Derived.Test.YtmbofpmjckjceaaDoorRows
import GoSem.ClaimSeven
namespace Go.Proofs.YtmbofpmjckjceaaDoor
namespace Rows

/-- THE TIED CARD OF 'samphirelaw10.RankTells'. -/
def rankTellsCard : Claim7 := { stood := { row := rankTellsRow, standIns := [], harness := (true, "78916b3d87eddb47550996bb4c11cd08e3fd1aee69c6074013a5d61be2c44b01"), looks := false }, kinds := [], alts := [], laidByText := true, laidKinds := [.data, .pinned], laidTests := true, laidLooks := .later }
def RankTellsCardSaid : Prop := Claim7.holds Tryd.pinned (.plain (OpenSpec.ofChange rankTellsSpec)) rankTellsCard

/-- THE TIED CARD OF 'samphirelaw10.RankSorts'. -/
def rankSortsCard : Claim7 := { stood := { row := rankSortsRow, standIns := [], harness := (true, "78916b3d87eddb47550996bb4c11cd08e3fd1aee69c6074013a5d61be2c44b01"), looks := false }, kinds := [], alts := [], laidByText := true, laidKinds := [.data, .pinned], laidTests := true, laidLooks := .later }
def RankSortsCardSaid : Prop := Claim7.holds Tryd.pinned (.plain (OpenSpec.ofChange rankSortsSpec)) rankSortsCard

/-- THE TIED CARD OF 'samphirelaw10.RankHeavy'. -/
def rankHeavyCard : Claim7 := { stood := { row := rankHeavyRow, standIns := [], harness := (true, "78916b3d87eddb47550996bb4c11cd08e3fd1aee69c6074013a5d61be2c44b01"), looks := false }, kinds := [], alts := [], laidByText := true, laidKinds := [.data, .pinned], laidTests := true, laidLooks := .later }
def RankHeavyCardSaid : Prop := Claim7.holds Tryd.pinned (.plain (OpenSpec.ofChange rankHeavySpec)) rankHeavyCard

/-- THE TIED CARD OF 'samphirelaw10.RankScale'. -/
def rankScaleCard : Claim7 := { stood := { row := rankScaleRow, standIns := [], harness := (true, "78916b3d87eddb47550996bb4c11cd08e3fd1aee69c6074013a5d61be2c44b01"), looks := false }, kinds := [], alts := [], laidByText := true, laidKinds := [.data, .pinned], laidTests := true, laidLooks := .later }
def RankScaleCardSaid : Prop := Claim7.holds Tryd.pinned (.plain (OpenSpec.ofChange rankScaleSpec)) rankScaleCard

/-- THE TIED CARD OF 'samphirelaw10.RankFirst'. -/
def rankFirstCard : Claim7 := { stood := { row := rankFirstRow, standIns := [], harness := (true, "78916b3d87eddb47550996bb4c11cd08e3fd1aee69c6074013a5d61be2c44b01"), looks := false }, kinds := [], alts := [], laidByText := true, laidKinds := [.data, .pinned], laidTests := true, laidLooks := .later }
def RankFirstCardSaid : Prop := Claim7.holds Tryd.pinned (.plain (OpenSpec.ofChange rankFirstSpec)) rankFirstCard

/-- THE TIED CARD OF 'samphirelaw10.RankOrder'. -/
def rankOrderCard : Claim7 := { stood := { row := rankOrderRow, standIns := [], harness := (true, "78916b3d87eddb47550996bb4c11cd08e3fd1aee69c6074013a5d61be2c44b01"), looks := false }, kinds := [], alts := [], laidByText := true, laidKinds := [.data, .pinned], laidTests := true, laidLooks := .later }
def RankOrderCardSaid : Prop := Claim7.holds Tryd.pinned (.plain (OpenSpec.ofChange rankOrderSpec)) rankOrderCard

/-- THE SECOND FORM's CARD OF 'samphirelaw10.RankTells'. -/
def rankTellsUptoCard : Claim7 := { stood := { row := rankTellsUptoRow, standIns := [], harness := (true, "78916b3d87eddb47550996bb4c11cd08e3fd1aee69c6074013a5d61be2c44b01"), looks := false }, kinds := [], alts := [], laidByText := true, laidKinds := [.data, .pinned], laidTests := true, laidLooks := .later }
def RankTellsUptoCardSaid : Prop := Claim7.holds Tryd.pinned (.plain (OpenSpec.upto rankTellsSpec)) rankTellsUptoCard

/-- THE SECOND FORM's CARD OF 'samphirelaw10.RankSorts'. -/
def rankSortsUptoCard : Claim7 := { stood := { row := rankSortsUptoRow, standIns := [], harness := (true, "78916b3d87eddb47550996bb4c11cd08e3fd1aee69c6074013a5d61be2c44b01"), looks := false }, kinds := [], alts := [], laidByText := true, laidKinds := [.data, .pinned], laidTests := true, laidLooks := .later }
def RankSortsUptoCardSaid : Prop := Claim7.holds Tryd.pinned (.plain (OpenSpec.upto rankSortsSpec)) rankSortsUptoCard

/-- THE SECOND FORM's CARD OF 'samphirelaw10.RankHeavy'. -/
def rankHeavyUptoCard : Claim7 := { stood := { row := rankHeavyUptoRow, standIns := [], harness := (true, "78916b3d87eddb47550996bb4c11cd08e3fd1aee69c6074013a5d61be2c44b01"), looks := false }, kinds := [], alts := [], laidByText := true, laidKinds := [.data, .pinned], laidTests := true, laidLooks := .later }
def RankHeavyUptoCardSaid : Prop := Claim7.holds Tryd.pinned (.plain (OpenSpec.upto rankHeavySpec)) rankHeavyUptoCard

/-- THE SECOND FORM's CARD OF 'samphirelaw10.RankScale'. -/
def rankScaleUptoCard : Claim7 := { stood := { row := rankScaleUptoRow, standIns := [], harness := (true, "78916b3d87eddb47550996bb4c11cd08e3fd1aee69c6074013a5d61be2c44b01"), looks := false }, kinds := [], alts := [], laidByText := true, laidKinds := [.data, .pinned], laidTests := true, laidLooks := .later }
def RankScaleUptoCardSaid : Prop := Claim7.holds Tryd.pinned (.plain (OpenSpec.upto rankScaleSpec)) rankScaleUptoCard

/-- THE SECOND FORM's CARD OF 'samphirelaw10.RankFirst'. -/
def rankFirstUptoCard : Claim7 := { stood := { row := rankFirstUptoRow, standIns := [], harness := (true, "78916b3d87eddb47550996bb4c11cd08e3fd1aee69c6074013a5d61be2c44b01"), looks := false }, kinds := [], alts := [], laidByText := true, laidKinds := [.data, .pinned], laidTests := true, laidLooks := .later }
def RankFirstUptoCardSaid : Prop := Claim7.holds Tryd.pinned (.plain (OpenSpec.upto rankFirstSpec)) rankFirstUptoCard

/-- THE SECOND FORM's CARD OF 'samphirelaw10.RankOrder'. -/
def rankOrderUptoCard : Claim7 := { stood := { row := rankOrderUptoRow, standIns := [], harness := (true, "78916b3d87eddb47550996bb4c11cd08e3fd1aee69c6074013a5d61be2c44b01"), looks := false }, kinds := [], alts := [], laidByText := true, laidKinds := [.data, .pinned], laidTests := true, laidLooks := .later }
def RankOrderUptoCardSaid : Prop := Claim7.holds Tryd.pinned (.plain (OpenSpec.upto rankOrderSpec)) rankOrderUptoCard
end Rows
end Go.Proofs.YtmbofpmjckjceaaDoor
