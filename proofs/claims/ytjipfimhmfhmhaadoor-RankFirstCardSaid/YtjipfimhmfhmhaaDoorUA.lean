/- Digits of sixteen bits, plainly. No condition. -/
import Derived.Test.YtjipfimhmfhmhaaDoorKAll
namespace Go.Proofs.YtjipfimhmfhmhaaDoor.Z
open Go Go.Proofs.YtjipfimhmfhmhaaDoor.K Go.Proofs.YtjipfimhmfhmhaaDoor.F Go.Proofs.YtjipfimhmfhmhaaDoor.M Go.Proofs.YtjipfimhmfhmhaaDoor.R
set_option linter.all false

def u64b (a : Int) : Prop := 0 ≤ a ∧ a < 18446744073709551616
/-- Which one is less. -/
def ordI (a b : Int) : Int := if a < b then -1 else if b < a then 1 else 0
end Go.Proofs.YtjipfimhmfhmhaaDoor.Z
