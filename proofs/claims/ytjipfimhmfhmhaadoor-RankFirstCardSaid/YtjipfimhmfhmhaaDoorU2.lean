/- Fractions over plain data, by what they are. No condition. -/
import Derived.Test.YtjipfimhmfhmhaaDoorZV
import Derived.Test.YtjipfimhmfhmhaaDoorKAll
namespace Go.Proofs.YtjipfimhmfhmhaaDoor.Z
open Go Go.RowKit Go.Proofs.YtjipfimhmfhmhaaDoor.E Go.Proofs.YtjipfimhmfhmhaaDoor.G Go.Proofs.YtjipfimhmfhmhaaDoor.K Go.Proofs.YtjipfimhmfhmhaaDoor.F Go.Proofs.YtjipfimhmfhmhaaDoor.M Go.Proofs.YtjipfimhmfhmhaaDoor.R
open Go.Proofs.YtjipfimhmfhmhaaDoorW.PrintWords hiding rd
set_option linter.all false

set_option maxRecDepth 100000
set_option maxHeartbeats 4000000
theorem au {A : Lz} (hA : A = std) {α : Type} (t : Unit → α) : A α t = t () := by subst hA; rfl
end Go.Proofs.YtjipfimhmfhmhaaDoor.Z
