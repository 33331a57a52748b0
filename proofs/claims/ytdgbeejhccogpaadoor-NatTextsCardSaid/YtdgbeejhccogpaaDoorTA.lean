/- The fixed answer of the laws of layer nat is true. No condition. -/
import Derived.Test.YtdgbeejhccogpaaDoorTF1
import Derived.KernelRfl
namespace Go.Proofs.YtdgbeejhccogpaaDoor.F
open Go.RowKit Go.Proofs.YtdgbeejhccogpaaDoor.T Go.Proofs.YtdgbeejhccogpaaDoorW.PrintWords Go.Proofs.YtdgbeejhccogpaaDoorW.PrintLast Go.Proofs.YtdgbeejhccogpaaDoorW.PrintMore Go.Proofs.YtdgbeejhccogpaaDoor.M
set_option maxRecDepth 100000
theorem awake_k (k : Nat) : samphirelaw02_awake.f (k + 60) = some true := by kernel_rfl
theorem awake_ev : Ev (fun k => samphirelaw02_awake.f k) true := ⟨60, fun k hk => by
  obtain ⟨m, rfl⟩ : ∃ m, k = m + 60 := ⟨k - 60, by omega⟩
  exact awake_k m⟩
theorem wf_W {l : List Int} (h : ∀ x ∈ l, (Lit.int .u32 x).wf = true) : W l := fun x hx => by
  have := h x hx
  simp [Lit.wf, IntKind.min, IntKind.max, IntKind.signed, IntKind.bits] at this
  omega
end Go.Proofs.YtdgbeejhccogpaaDoor.F
