/-
  DERIVED. GIVEN WITH THE SEED: THE CARDS: each row of YtmndbhgbngkakaaDoorRows.lean that lists a variable, with what it lists TIED to the program's text (the seventh form; the later family's looks); each row that meets fmt, with fmt's text TOLD by the authors' own Lean function (tested against real Go, not proved from fmt's source: count such statements apart). THE CARD IS WHAT COUNTS. Prove the row's statement (the work); the ties are given (YtmndbhgbngkakaaDoorTie.lean); close each card by the builder's one call (the guide's Derived/Test/ToyasCard.lean, 'card_holds'). Laid BY PROGRAM, IN A SANDBOX (cutbox-door.mjs). By AI agents, Wed Nov 11 2026. No macro, syntax, notation, axiom, sorry.
-/
import Derived.Test.YtmndbhgbngkakaaDoorRows
import GoSem.ClaimSeven
namespace Go.Proofs.YtmndbhgbngkakaaDoor
namespace Rows

/-- THE TIED CARD OF 'samphirelaw13.KeepFirst'. -/
def keepFirstCard : Claim7 := { stood := { row := keepFirstRow, standIns := [], harness := (true, "2241d757b2b63136c0f06dffd38d2f14a1d3adab23884a301a57a29c30015001"), looks := false }, kinds := [], alts := [], laidByText := true, laidKinds := [.data, .pinned], laidTests := true, laidLooks := .later }
def KeepFirstCardSaid : Prop := Claim7.holds Tryd.pinned (.plain (OpenSpec.ofChange keepFirstSpec)) keepFirstCard

/-- THE TIED CARD OF 'samphirelaw13.KeepCuts'. -/
def keepCutsCard : Claim7 := { stood := { row := keepCutsRow, standIns := [], harness := (true, "2241d757b2b63136c0f06dffd38d2f14a1d3adab23884a301a57a29c30015001"), looks := false }, kinds := [], alts := [], laidByText := true, laidKinds := [.data, .pinned], laidTests := true, laidLooks := .later }
def KeepCutsCardSaid : Prop := Claim7.holds Tryd.pinned (.plain (OpenSpec.ofChange keepCutsSpec)) keepCutsCard

/-- THE TIED CARD OF 'samphirelaw13.KeepStays'. -/
def keepStaysCard : Claim7 := { stood := { row := keepStaysRow, standIns := [], harness := (true, "2241d757b2b63136c0f06dffd38d2f14a1d3adab23884a301a57a29c30015001"), looks := false }, kinds := [], alts := [], laidByText := true, laidKinds := [.data, .pinned], laidTests := true, laidLooks := .later }
def KeepStaysCardSaid : Prop := Claim7.holds Tryd.pinned (.plain (OpenSpec.ofChange keepStaysSpec)) keepStaysCard

/-- THE TIED CARD OF 'samphirelaw13.KeepMerges'. -/
def keepMergesCard : Claim7 := { stood := { row := keepMergesRow, standIns := [], harness := (true, "2241d757b2b63136c0f06dffd38d2f14a1d3adab23884a301a57a29c30015001"), looks := false }, kinds := [], alts := [], laidByText := true, laidKinds := [.data, .pinned], laidTests := true, laidLooks := .later }
def KeepMergesCardSaid : Prop := Claim7.holds Tryd.pinned (.plain (OpenSpec.ofChange keepMergesSpec)) keepMergesCard

/-- THE TIED CARD OF 'samphirelaw13.KeepThreshold'. -/
def keepThresholdCard : Claim7 := { stood := { row := keepThresholdRow, standIns := [], harness := (true, "2241d757b2b63136c0f06dffd38d2f14a1d3adab23884a301a57a29c30015001"), looks := false }, kinds := [], alts := [], laidByText := true, laidKinds := [.data, .pinned], laidTests := true, laidLooks := .later }
def KeepThresholdCardSaid : Prop := Claim7.holds Tryd.pinned (.plain (OpenSpec.ofChange keepThresholdSpec)) keepThresholdCard

/-- THE SECOND FORM's CARD OF 'samphirelaw13.KeepFirst'. -/
def keepFirstUptoCard : Claim7 := { stood := { row := keepFirstUptoRow, standIns := [], harness := (true, "2241d757b2b63136c0f06dffd38d2f14a1d3adab23884a301a57a29c30015001"), looks := false }, kinds := [], alts := [], laidByText := true, laidKinds := [.data, .pinned], laidTests := true, laidLooks := .later }
def KeepFirstUptoCardSaid : Prop := Claim7.holds Tryd.pinned (.plain (OpenSpec.upto keepFirstSpec)) keepFirstUptoCard

/-- THE SECOND FORM's CARD OF 'samphirelaw13.KeepCuts'. -/
def keepCutsUptoCard : Claim7 := { stood := { row := keepCutsUptoRow, standIns := [], harness := (true, "2241d757b2b63136c0f06dffd38d2f14a1d3adab23884a301a57a29c30015001"), looks := false }, kinds := [], alts := [], laidByText := true, laidKinds := [.data, .pinned], laidTests := true, laidLooks := .later }
def KeepCutsUptoCardSaid : Prop := Claim7.holds Tryd.pinned (.plain (OpenSpec.upto keepCutsSpec)) keepCutsUptoCard

/-- THE SECOND FORM's CARD OF 'samphirelaw13.KeepStays'. -/
def keepStaysUptoCard : Claim7 := { stood := { row := keepStaysUptoRow, standIns := [], harness := (true, "2241d757b2b63136c0f06dffd38d2f14a1d3adab23884a301a57a29c30015001"), looks := false }, kinds := [], alts := [], laidByText := true, laidKinds := [.data, .pinned], laidTests := true, laidLooks := .later }
def KeepStaysUptoCardSaid : Prop := Claim7.holds Tryd.pinned (.plain (OpenSpec.upto keepStaysSpec)) keepStaysUptoCard

/-- THE SECOND FORM's CARD OF 'samphirelaw13.KeepMerges'. -/
def keepMergesUptoCard : Claim7 := { stood := { row := keepMergesUptoRow, standIns := [], harness := (true, "2241d757b2b63136c0f06dffd38d2f14a1d3adab23884a301a57a29c30015001"), looks := false }, kinds := [], alts := [], laidByText := true, laidKinds := [.data, .pinned], laidTests := true, laidLooks := .later }
def KeepMergesUptoCardSaid : Prop := Claim7.holds Tryd.pinned (.plain (OpenSpec.upto keepMergesSpec)) keepMergesUptoCard

/-- THE SECOND FORM's CARD OF 'samphirelaw13.KeepThreshold'. -/
def keepThresholdUptoCard : Claim7 := { stood := { row := keepThresholdUptoRow, standIns := [], harness := (true, "2241d757b2b63136c0f06dffd38d2f14a1d3adab23884a301a57a29c30015001"), looks := false }, kinds := [], alts := [], laidByText := true, laidKinds := [.data, .pinned], laidTests := true, laidLooks := .later }
def KeepThresholdUptoCardSaid : Prop := Claim7.holds Tryd.pinned (.plain (OpenSpec.upto keepThresholdSpec)) keepThresholdUptoCard
end Rows
end Go.Proofs.YtmndbhgbngkakaaDoor
