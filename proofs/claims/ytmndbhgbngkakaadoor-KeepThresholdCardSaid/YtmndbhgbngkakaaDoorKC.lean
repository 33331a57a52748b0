/- the document's Best over plain data. No condition. -/
import Derived.Test.YtmndbhgbngkakaaDoorKX
import Derived.Test.YtmndbhgbngkakaaDoorJ1
namespace Go.Proofs.YtmndbhgbngkakaaDoor.Z
open Go Go.RowKit Go.Proofs.YtmndbhgbngkakaaDoor.E Go.Proofs.YtmndbhgbngkakaaDoor.G Go.Proofs.YtmndbhgbngkakaaDoor.K Go.Proofs.YtmndbhgbngkakaaDoor.F Go.Proofs.YtmndbhgbngkakaaDoor.M Go.Proofs.YtmndbhgbngkakaaDoor.R
open Go.Proofs.YtmndbhgbngkakaaDoorW.PrintWords hiding rd
set_option linter.all false

set_option maxRecDepth 100000
set_option maxHeartbeats 4000000
theorem rdit {l : List FV} {L : List It} {m n : Nat} (hl : l = its L) (h : m = n) : ((G.nth l m).cell 0).toS = (gi L n).key ∧ ((G.nth l m).cell 1).toI = (gi L n).u ∧ ((G.nth l m).cell 2).toI = (gi L n).w := by
  subst hl; subst h
  exact ⟨its_key L m, its_u L m, its_w L m⟩
end Go.Proofs.YtmndbhgbngkakaaDoor.Z
