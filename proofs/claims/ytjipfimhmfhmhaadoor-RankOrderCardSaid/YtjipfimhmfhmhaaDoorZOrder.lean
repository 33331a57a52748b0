/- RankOrder yields true for all items. No condition. -/
import Derived.Test.YtjipfimhmfhmhaaDoorU8
import Derived.Test.YtjipfimhmfhmhaaDoorGB
namespace Go.Proofs.YtjipfimhmfhmhaaDoor.Z
open Go Go.RowKit Go.Proofs.YtjipfimhmfhmhaaDoor.E Go.Proofs.YtjipfimhmfhmhaaDoor.G
set_option linter.all false
theorem u64b_of2 {a : Int} (h : (Lit.int .u64 a).wf = true) : u64b a := u64_of h
/-- What its row asks for. -/
theorem RankOrder_calls (k : ByteArray) (u w : Int) (k' : ByteArray) (u' w' : Int) (k2 : ByteArray) (u2 w2 : Int) (hu : (Lit.int .u64 u).wf = true) (hw : (Lit.int .u64 w).wf = true) (hu' : (Lit.int .u64 u').wf = true) (hw' : (Lit.int .u64 w').wf = true) (hu2 : (Lit.int .u64 u2).wf = true) (hw2 : (Lit.int .u64 w2).wf = true) (W : World) :
    Calls Tryd.prog 8 #[.agg #[.string k, .int .u64 u, .int .u64 w], .agg #[.string k', .int .u64 u', .int .u64 w'], .agg #[.string k2, .int .u64 u2, .int .u64 w2]] W (fun e w' => e = .returned (.bool true) ∧ Below W.heap.size W w') :=
  flat_calls B_ok LV_ok rorder_ok [.agg [.str k, .int .u64 u, .int .u64 w], .agg [.str k', .int .u64 u', .int .u64 w'], .agg [.str k2, .int .u64 u2, .int .u64 w2]] rfl ⟨⟨⟨u64b_of2 hu, u64b_of2 hw⟩, ⟨u64b_of2 hu', u64b_of2 hw'⟩, u64b_of2 hu2, u64b_of2 hw2⟩, rfl⟩ W
end Go.Proofs.YtjipfimhmfhmhaaDoor.Z
