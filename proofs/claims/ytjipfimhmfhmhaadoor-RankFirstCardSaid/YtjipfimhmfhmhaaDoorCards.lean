/-
  DERIVED. GIVEN WITH THE SEED: THE CARDS: each row of YtjipfimhmfhmhaaDoorRows.lean that lists a variable, with what it lists TIED to the program's text (the seventh form; the later family's looks); each row that meets fmt, with fmt's text TOLD by the authors' own Lean function (tested against real Go, not proved from fmt's source: count such statements apart). THE CARD IS WHAT COUNTS. Prove the row's statement (the work); the ties are given (YtjipfimhmfhmhaaDoorTie.lean); close each card by the builder's one call (the guide's Derived/Test/ToyasCard.lean, 'card_holds'). Laid BY PROGRAM, IN A SANDBOX (cutbox-door.mjs). By AI agents, Wed Nov 11 2026. No macro, syntax, notation, axiom, sorry.
-/
import Derived.Test.YtjipfimhmfhmhaaDoorRows
import GoSem.ClaimSeven
namespace Go.Proofs.YtjipfimhmfhmhaaDoor
namespace Rows

/-- THE TIED CARD OF 'samphirelaw10.RankTells'. -/
def rankTellsCard : Claim7 := { stood := { row := rankTellsRow, standIns := [], harness := (true, "a836e7331f1c07586aba18c02b2344cfab06d7a90b9343d7144d6894127090d4"), looks := false }, kinds := [], alts := [], laidByText := true, laidKinds := [.data, .pinned], laidTests := true, laidLooks := .later }
def RankTellsCardSaid : Prop := Claim7.holds Tryd.pinned (.plain (OpenSpec.ofChange rankTellsSpec)) rankTellsCard

/-- THE TIED CARD OF 'samphirelaw10.RankSorts'. -/
def rankSortsCard : Claim7 := { stood := { row := rankSortsRow, standIns := [], harness := (true, "a836e7331f1c07586aba18c02b2344cfab06d7a90b9343d7144d6894127090d4"), looks := false }, kinds := [], alts := [], laidByText := true, laidKinds := [.data, .pinned], laidTests := true, laidLooks := .later }
def RankSortsCardSaid : Prop := Claim7.holds Tryd.pinned (.plain (OpenSpec.ofChange rankSortsSpec)) rankSortsCard

/-- THE TIED CARD OF 'samphirelaw10.RankHeavy'. -/
def rankHeavyCard : Claim7 := { stood := { row := rankHeavyRow, standIns := [], harness := (true, "a836e7331f1c07586aba18c02b2344cfab06d7a90b9343d7144d6894127090d4"), looks := false }, kinds := [], alts := [], laidByText := true, laidKinds := [.data, .pinned], laidTests := true, laidLooks := .later }
def RankHeavyCardSaid : Prop := Claim7.holds Tryd.pinned (.plain (OpenSpec.ofChange rankHeavySpec)) rankHeavyCard

/-- THE TIED CARD OF 'samphirelaw10.RankScale'. -/
def rankScaleCard : Claim7 := { stood := { row := rankScaleRow, standIns := [], harness := (true, "a836e7331f1c07586aba18c02b2344cfab06d7a90b9343d7144d6894127090d4"), looks := false }, kinds := [], alts := [], laidByText := true, laidKinds := [.data, .pinned], laidTests := true, laidLooks := .later }
def RankScaleCardSaid : Prop := Claim7.holds Tryd.pinned (.plain (OpenSpec.ofChange rankScaleSpec)) rankScaleCard

/-- THE TIED CARD OF 'samphirelaw10.RankFirst'. -/
def rankFirstCard : Claim7 := { stood := { row := rankFirstRow, standIns := [], harness := (true, "a836e7331f1c07586aba18c02b2344cfab06d7a90b9343d7144d6894127090d4"), looks := false }, kinds := [], alts := [], laidByText := true, laidKinds := [.data, .pinned], laidTests := true, laidLooks := .later }
def RankFirstCardSaid : Prop := Claim7.holds Tryd.pinned (.plain (OpenSpec.ofChange rankFirstSpec)) rankFirstCard

/-- THE TIED CARD OF 'samphirelaw10.RankOrder'. -/
def rankOrderCard : Claim7 := { stood := { row := rankOrderRow, standIns := [], harness := (true, "a836e7331f1c07586aba18c02b2344cfab06d7a90b9343d7144d6894127090d4"), looks := false }, kinds := [], alts := [], laidByText := true, laidKinds := [.data, .pinned], laidTests := true, laidLooks := .later }
def RankOrderCardSaid : Prop := Claim7.holds Tryd.pinned (.plain (OpenSpec.ofChange rankOrderSpec)) rankOrderCard

/-- THE TIED CARD OF 'samphirelaw13.KeepFirst'. -/
def keepFirstCard : Claim7 := { stood := { row := keepFirstRow, standIns := [], harness := (true, "a836e7331f1c07586aba18c02b2344cfab06d7a90b9343d7144d6894127090d4"), looks := false }, kinds := [], alts := [], laidByText := true, laidKinds := [.data, .pinned], laidTests := true, laidLooks := .later }
def KeepFirstCardSaid : Prop := Claim7.holds Tryd.pinned (.plain (OpenSpec.ofChange keepFirstSpec)) keepFirstCard

/-- THE TIED CARD OF 'samphirelaw13.KeepCuts'. -/
def keepCutsCard : Claim7 := { stood := { row := keepCutsRow, standIns := [], harness := (true, "a836e7331f1c07586aba18c02b2344cfab06d7a90b9343d7144d6894127090d4"), looks := false }, kinds := [], alts := [], laidByText := true, laidKinds := [.data, .pinned], laidTests := true, laidLooks := .later }
def KeepCutsCardSaid : Prop := Claim7.holds Tryd.pinned (.plain (OpenSpec.ofChange keepCutsSpec)) keepCutsCard

/-- THE TIED CARD OF 'samphirelaw13.KeepStays'. -/
def keepStaysCard : Claim7 := { stood := { row := keepStaysRow, standIns := [], harness := (true, "a836e7331f1c07586aba18c02b2344cfab06d7a90b9343d7144d6894127090d4"), looks := false }, kinds := [], alts := [], laidByText := true, laidKinds := [.data, .pinned], laidTests := true, laidLooks := .later }
def KeepStaysCardSaid : Prop := Claim7.holds Tryd.pinned (.plain (OpenSpec.ofChange keepStaysSpec)) keepStaysCard

/-- THE TIED CARD OF 'samphirelaw13.KeepMerges'. -/
def keepMergesCard : Claim7 := { stood := { row := keepMergesRow, standIns := [], harness := (true, "a836e7331f1c07586aba18c02b2344cfab06d7a90b9343d7144d6894127090d4"), looks := false }, kinds := [], alts := [], laidByText := true, laidKinds := [.data, .pinned], laidTests := true, laidLooks := .later }
def KeepMergesCardSaid : Prop := Claim7.holds Tryd.pinned (.plain (OpenSpec.ofChange keepMergesSpec)) keepMergesCard

/-- THE TIED CARD OF 'samphirelaw13.KeepThreshold'. -/
def keepThresholdCard : Claim7 := { stood := { row := keepThresholdRow, standIns := [], harness := (true, "a836e7331f1c07586aba18c02b2344cfab06d7a90b9343d7144d6894127090d4"), looks := false }, kinds := [], alts := [], laidByText := true, laidKinds := [.data, .pinned], laidTests := true, laidLooks := .later }
def KeepThresholdCardSaid : Prop := Claim7.holds Tryd.pinned (.plain (OpenSpec.ofChange keepThresholdSpec)) keepThresholdCard

/-- THE SECOND FORM's CARD OF 'samphirelaw10.RankTells'. -/
def rankTellsUptoCard : Claim7 := { stood := { row := rankTellsUptoRow, standIns := [], harness := (true, "a836e7331f1c07586aba18c02b2344cfab06d7a90b9343d7144d6894127090d4"), looks := false }, kinds := [], alts := [], laidByText := true, laidKinds := [.data, .pinned], laidTests := true, laidLooks := .later }
def RankTellsUptoCardSaid : Prop := Claim7.holds Tryd.pinned (.plain (OpenSpec.upto rankTellsSpec)) rankTellsUptoCard

/-- THE SECOND FORM's CARD OF 'samphirelaw10.RankSorts'. -/
def rankSortsUptoCard : Claim7 := { stood := { row := rankSortsUptoRow, standIns := [], harness := (true, "a836e7331f1c07586aba18c02b2344cfab06d7a90b9343d7144d6894127090d4"), looks := false }, kinds := [], alts := [], laidByText := true, laidKinds := [.data, .pinned], laidTests := true, laidLooks := .later }
def RankSortsUptoCardSaid : Prop := Claim7.holds Tryd.pinned (.plain (OpenSpec.upto rankSortsSpec)) rankSortsUptoCard

/-- THE SECOND FORM's CARD OF 'samphirelaw10.RankHeavy'. -/
def rankHeavyUptoCard : Claim7 := { stood := { row := rankHeavyUptoRow, standIns := [], harness := (true, "a836e7331f1c07586aba18c02b2344cfab06d7a90b9343d7144d6894127090d4"), looks := false }, kinds := [], alts := [], laidByText := true, laidKinds := [.data, .pinned], laidTests := true, laidLooks := .later }
def RankHeavyUptoCardSaid : Prop := Claim7.holds Tryd.pinned (.plain (OpenSpec.upto rankHeavySpec)) rankHeavyUptoCard

/-- THE SECOND FORM's CARD OF 'samphirelaw10.RankScale'. -/
def rankScaleUptoCard : Claim7 := { stood := { row := rankScaleUptoRow, standIns := [], harness := (true, "a836e7331f1c07586aba18c02b2344cfab06d7a90b9343d7144d6894127090d4"), looks := false }, kinds := [], alts := [], laidByText := true, laidKinds := [.data, .pinned], laidTests := true, laidLooks := .later }
def RankScaleUptoCardSaid : Prop := Claim7.holds Tryd.pinned (.plain (OpenSpec.upto rankScaleSpec)) rankScaleUptoCard

/-- THE SECOND FORM's CARD OF 'samphirelaw10.RankFirst'. -/
def rankFirstUptoCard : Claim7 := { stood := { row := rankFirstUptoRow, standIns := [], harness := (true, "a836e7331f1c07586aba18c02b2344cfab06d7a90b9343d7144d6894127090d4"), looks := false }, kinds := [], alts := [], laidByText := true, laidKinds := [.data, .pinned], laidTests := true, laidLooks := .later }
def RankFirstUptoCardSaid : Prop := Claim7.holds Tryd.pinned (.plain (OpenSpec.upto rankFirstSpec)) rankFirstUptoCard

/-- THE SECOND FORM's CARD OF 'samphirelaw10.RankOrder'. -/
def rankOrderUptoCard : Claim7 := { stood := { row := rankOrderUptoRow, standIns := [], harness := (true, "a836e7331f1c07586aba18c02b2344cfab06d7a90b9343d7144d6894127090d4"), looks := false }, kinds := [], alts := [], laidByText := true, laidKinds := [.data, .pinned], laidTests := true, laidLooks := .later }
def RankOrderUptoCardSaid : Prop := Claim7.holds Tryd.pinned (.plain (OpenSpec.upto rankOrderSpec)) rankOrderUptoCard

/-- THE SECOND FORM's CARD OF 'samphirelaw13.KeepFirst'. -/
def keepFirstUptoCard : Claim7 := { stood := { row := keepFirstUptoRow, standIns := [], harness := (true, "a836e7331f1c07586aba18c02b2344cfab06d7a90b9343d7144d6894127090d4"), looks := false }, kinds := [], alts := [], laidByText := true, laidKinds := [.data, .pinned], laidTests := true, laidLooks := .later }
def KeepFirstUptoCardSaid : Prop := Claim7.holds Tryd.pinned (.plain (OpenSpec.upto keepFirstSpec)) keepFirstUptoCard

/-- THE SECOND FORM's CARD OF 'samphirelaw13.KeepCuts'. -/
def keepCutsUptoCard : Claim7 := { stood := { row := keepCutsUptoRow, standIns := [], harness := (true, "a836e7331f1c07586aba18c02b2344cfab06d7a90b9343d7144d6894127090d4"), looks := false }, kinds := [], alts := [], laidByText := true, laidKinds := [.data, .pinned], laidTests := true, laidLooks := .later }
def KeepCutsUptoCardSaid : Prop := Claim7.holds Tryd.pinned (.plain (OpenSpec.upto keepCutsSpec)) keepCutsUptoCard

/-- THE SECOND FORM's CARD OF 'samphirelaw13.KeepStays'. -/
def keepStaysUptoCard : Claim7 := { stood := { row := keepStaysUptoRow, standIns := [], harness := (true, "a836e7331f1c07586aba18c02b2344cfab06d7a90b9343d7144d6894127090d4"), looks := false }, kinds := [], alts := [], laidByText := true, laidKinds := [.data, .pinned], laidTests := true, laidLooks := .later }
def KeepStaysUptoCardSaid : Prop := Claim7.holds Tryd.pinned (.plain (OpenSpec.upto keepStaysSpec)) keepStaysUptoCard

/-- THE SECOND FORM's CARD OF 'samphirelaw13.KeepMerges'. -/
def keepMergesUptoCard : Claim7 := { stood := { row := keepMergesUptoRow, standIns := [], harness := (true, "a836e7331f1c07586aba18c02b2344cfab06d7a90b9343d7144d6894127090d4"), looks := false }, kinds := [], alts := [], laidByText := true, laidKinds := [.data, .pinned], laidTests := true, laidLooks := .later }
def KeepMergesUptoCardSaid : Prop := Claim7.holds Tryd.pinned (.plain (OpenSpec.upto keepMergesSpec)) keepMergesUptoCard

/-- THE SECOND FORM's CARD OF 'samphirelaw13.KeepThreshold'. -/
def keepThresholdUptoCard : Claim7 := { stood := { row := keepThresholdUptoRow, standIns := [], harness := (true, "a836e7331f1c07586aba18c02b2344cfab06d7a90b9343d7144d6894127090d4"), looks := false }, kinds := [], alts := [], laidByText := true, laidKinds := [.data, .pinned], laidTests := true, laidLooks := .later }
def KeepThresholdUptoCardSaid : Prop := Claim7.holds Tryd.pinned (.plain (OpenSpec.upto keepThresholdSpec)) keepThresholdUptoCard
end Rows
end Go.Proofs.YtjipfimhmfhmhaaDoor
