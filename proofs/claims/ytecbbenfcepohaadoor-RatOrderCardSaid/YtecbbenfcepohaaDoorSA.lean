/- The fixed answer of the laws of layer rat is true. No condition. -/
import Derived.Test.YtecbbenfcepohaaDoorKAll
import Derived.Test.YtecbbenfcepohaaDoorV0
import Derived.KernelRfl
namespace Go.Proofs.YtecbbenfcepohaaDoor.F
open Go.RowKit Go.Proofs.YtecbbenfcepohaaDoor.K Go.Proofs.YtecbbenfcepohaaDoor.V Go.Proofs.YtecbbenfcepohaaDoorW.PrintWords Go.Proofs.YtecbbenfcepohaaDoorW.PrintLast Go.Proofs.YtecbbenfcepohaaDoorW.PrintMore Go.Proofs.YtecbbenfcepohaaDoor.M
set_option maxRecDepth 100000
theorem rawake_k (k : Nat) : samphirelaw03_awake.f (k + 60) = some true := by kernel_rfl
theorem rawake_ev : Ev (fun k => samphirelaw03_awake.f k) true := ⟨60, fun k hk => by
  obtain ⟨m, rfl⟩ : ∃ m, k = m + 60 := ⟨k - 60, by omega⟩
  exact rawake_k m⟩
theorem wf_W {l : List Int} (h : ∀ x ∈ l, (Lit.int .u32 x).wf = true) : W l := fun x hx => by
  have := h x hx
  simp [Lit.wf, IntKind.min, IntKind.max, IntKind.signed, IntKind.bits] at this
  omega
theorem u64_nat {x : Int} (h : (Lit.int .u64 x).wf = true) : ∃ n : Nat, x = n ∧ n < 18446744073709551616 := by
  simp [Lit.wf, IntKind.min, IntKind.max, IntKind.signed, IntKind.bits] at h
  exact ⟨x.toNat, by omega, by omega⟩
end Go.Proofs.YtecbbenfcepohaaDoor.F
