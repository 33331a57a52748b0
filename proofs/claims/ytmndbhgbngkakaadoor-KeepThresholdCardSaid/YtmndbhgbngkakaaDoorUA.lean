/- Digits of sixteen bits, plainly. No condition. -/
import Derived.Test.YtmndbhgbngkakaaDoorKAll
namespace Go.Proofs.YtmndbhgbngkakaaDoor.Z
open Go Go.Proofs.YtmndbhgbngkakaaDoor.K Go.Proofs.YtmndbhgbngkakaaDoor.F Go.Proofs.YtmndbhgbngkakaaDoor.M Go.Proofs.YtmndbhgbngkakaaDoor.R
set_option linter.all false

def u64b (a : Int) : Prop := 0 ≤ a ∧ a < 18446744073709551616
/-- Which one is less. -/
def ordI (a b : Int) : Int := if a < b then -1 else if b < a then 1 else 0
end Go.Proofs.YtmndbhgbngkakaaDoor.Z
