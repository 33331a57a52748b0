/- RankTells yields true for all items. No condition. -/
import Derived.Test.YtmkblnajnpmflaaDoorU6
import Derived.Test.YtmkblnajnpmflaaDoorGB
namespace Go.Proofs.YtmkblnajnpmflaaDoor.Z
open Go Go.RowKit Go.Proofs.YtmkblnajnpmflaaDoor.E Go.Proofs.YtmkblnajnpmflaaDoor.G
set_option linter.all false
theorem u64b_of {a : Int} (h : (Lit.int .u64 a).wf = true) : u64b a := u64_of h
/-- What its row asks for. -/
theorem RankTells_calls (k : ByteArray) (u w : Int) (k' : ByteArray) (u' w' : Int) (hu : (Lit.int .u64 u).wf = true) (hw : (Lit.int .u64 w).wf = true) (hu' : (Lit.int .u64 u').wf = true) (hw' : (Lit.int .u64 w').wf = true) (W : World) :
    Calls Tryd.prog 3 #[.agg #[.string k, .int .u64 u, .int .u64 w], .agg #[.string k', .int .u64 u', .int .u64 w']] W (fun e w' => e = .returned (.bool true) ∧ Below W.heap.size W w') :=
  flat_calls B_ok LV_ok tells_ok [.agg [.str k, .int .u64 u, .int .u64 w], .agg [.str k', .int .u64 u', .int .u64 w']] rfl ⟨⟨⟨u64b_of hu, u64b_of hw⟩, u64b_of hu', u64b_of hw'⟩, rfl⟩ W
end Go.Proofs.YtmkblnajnpmflaaDoor.Z
