/- RankScale yields true for all items and numbers. No condition. -/
import Derived.Test.YtmkblnajnpmflaaDoorU7
import Derived.Test.YtmkblnajnpmflaaDoorGB
namespace Go.Proofs.YtmkblnajnpmflaaDoor.Z
open Go Go.RowKit Go.Proofs.YtmkblnajnpmflaaDoor.E Go.Proofs.YtmkblnajnpmflaaDoor.G
set_option linter.all false
theorem u64b_of' {a : Int} (h : (Lit.int .u64 a).wf = true) : u64b a := u64_of h
theorem u32b_of {a : Int} (h : (Lit.int .u32 a).wf = true) : 0 ≤ a ∧ a < 4294967296 := by
  simp [Lit.wf, IntKind.min, IntKind.max, IntKind.signed, IntKind.bits] at h
  exact ⟨by omega, by omega⟩
/-- What its row asks for. -/
theorem RankScale_calls (k : ByteArray) (u w : Int) (k' : ByteArray) (u' w' n : Int) (hu : (Lit.int .u64 u).wf = true) (hw : (Lit.int .u64 w).wf = true) (hu' : (Lit.int .u64 u').wf = true) (hw' : (Lit.int .u64 w').wf = true) (hn : (Lit.int .u32 n).wf = true) (W : World) :
    Calls Tryd.prog 6 #[.agg #[.string k, .int .u64 u, .int .u64 w], .agg #[.string k', .int .u64 u', .int .u64 w'], .int .u32 n] W (fun e w' => e = .returned (.bool true) ∧ Below W.heap.size W w') :=
  flat_calls B_ok LV_ok scale_ok [.agg [.str k, .int .u64 u, .int .u64 w], .agg [.str k', .int .u64 u', .int .u64 w'], .int .u32 n] rfl ⟨⟨⟨u64b_of' hu, u64b_of' hw⟩, ⟨u64b_of' hu', u64b_of' hw'⟩, u32b_of hn⟩, rfl⟩ W
end Go.Proofs.YtmkblnajnpmflaaDoor.Z
