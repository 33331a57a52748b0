/- Several texts of one claim in one file: YtmndbhgbngkakaaDoorU2. No condition. -/
import Derived.Test.YtmndbhgbngkakaaDoorZV
import Derived.Test.YtmndbhgbngkakaaDoorKAll
section
/- Fractions over plain data, by what they are. No condition. -/
namespace Go.Proofs.YtmndbhgbngkakaaDoor.Z
open Go Go.RowKit Go.Proofs.YtmndbhgbngkakaaDoor.E Go.Proofs.YtmndbhgbngkakaaDoor.G Go.Proofs.YtmndbhgbngkakaaDoor.K Go.Proofs.YtmndbhgbngkakaaDoor.F Go.Proofs.YtmndbhgbngkakaaDoor.M Go.Proofs.YtmndbhgbngkakaaDoor.R
open Go.Proofs.YtmndbhgbngkakaaDoorW.PrintWords hiding rd
set_option linter.all false

set_option maxRecDepth 100000
set_option maxHeartbeats 4000000
theorem au {A : Lz} (hA : A = std) {α : Type} (t : Unit → α) : A α t = t () := by subst hA; rfl
end Go.Proofs.YtmndbhgbngkakaaDoor.Z
end
