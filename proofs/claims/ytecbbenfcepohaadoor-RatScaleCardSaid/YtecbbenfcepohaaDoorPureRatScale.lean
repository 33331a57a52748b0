/- RatScale: both limbs of a fraction, times one natural, make the same fraction. No condition but the lists' lengths. -/
import Derived.Test.YtecbbenfcepohaaDoorS4
import Derived.Test.YtecbbenfcepohaaDoorS3
import Derived.Test.YtecbbenfcepohaaDoorSA
import Derived.Test.YtecbbenfcepohaaDoorVD
namespace Go.Proofs.YtecbbenfcepohaaDoor.Pure
set_option linter.unusedSimpArgs false
set_option linter.unusedVariables false
open Go.RowKit Go.Proofs.YtecbbenfcepohaaDoor.K Go.Proofs.YtecbbenfcepohaaDoor.V Go.Proofs.YtecbbenfcepohaaDoorW.PrintWords Go.Proofs.YtecbbenfcepohaaDoorW.PrintLast Go.Proofs.YtecbbenfcepohaaDoorW.PrintMore Go.Proofs.YtecbbenfcepohaaDoor.M Go.Proofs.YtecbbenfcepohaaDoor.Q Go.Proofs.YtecbbenfcepohaaDoor.R Go.Proofs.YtecbbenfcepohaaDoor.F

theorem scale_ev (l0 l1 l2 : List Int) (h0 : W l0) (h1 : W l1) (h2 : W l2) (n0 : l0.length ≤ 140737488351232) (n1 : l1.length ≤ 140737488351232) (n2 : l2.length ≤ 140737488351232) : Ev (fun k => samphirelaw03_RatScale.f k l0 l1 l2) true := by
  have aw : Ev (fun k => (samphirelaw03_awake.f k).bind fun t => (some t : Option Bool)) true := Ev.bind rawake_ev (Ev.now _)
  have aw2 : Ev (fun k => (samphirelaw03_awake.f k).bind fun t => if t = true then (some true : Option Bool) else some false) true := Ev.bind rawake_ev (Ev.now _)
  unfold samphirelaw03_RatScale.f
  by_cases c0 : 6 < (l0.length : Int)
  · simp only [if_pos c0]; exact aw
  simp only [if_neg c0]
  by_cases c1 : 6 < (l1.length : Int)
  · simp only [if_pos c1]; exact aw
  simp only [if_neg c1]
  refine Ev.bind (fright_ev l0 l1 h0 h1 (by omega) (by omega)) ?_
  cases f1 : frB l0 l1 with
  | false => simp only [Bool.false_eq_true, if_false]; exact aw
  | true =>
  simp only [if_true]
  by_cases c2 : (l2.length : Int) = 0
  · simp only [if_pos c2]; exact aw
  simp only [if_neg c2]
  by_cases c3 : 20 < (l2.length : Int)
  · simp only [if_pos c3]; exact aw
  simp only [if_neg c3]
  rw [rright_eq l2 h2 (by omega)]
  cases r2 : rightB l2 with
  | false => simp only [ob, Bool.false_eq_true, if_false]; exact aw
  | true =>
  simp only [ob, if_true]
  obtain ⟨a, b, rfl, rfl, oa, ob_, hf⟩ := frB_nat h0 h1 f1
  obtain ⟨n, rfl, on⟩ := right_nat h2 r2
  have ba := six c0
  have bb := six c1
  have bn : n < 4294967296 ^ 20 := len_le.1 (by omega)
  have n0' : n ≠ 0 := fun e => c2 ((lenI_zero n).2 e)
  have s1 := ok_mul ba bn
  have s2 := ok_mul bb bn
  refine Ev.bind (rmul oa on) ?_
  refine Ev.bind (rmul ob_ on) ?_
  have p : 0 < b * n := Nat.mul_pos hf.1 (by omega)
  have M := make_ev (a * n) (b * n) (ok_le s1 (by decide)) (ok_le s2 (by decide))
  rw [if_neg (by omega), red_iff hf p (by rw [Nat.mul_assoc, Nat.mul_comm n b])] at M
  refine Ev.bind M ?_
  simp only [if_true]
  refine Ev.bind (same_self (lim a) (lim b) (by omega) (by omega)) ?_
  simp only [if_true]
  refine Ev.bind (ftext_ev oa ob_ hf) ?_
  refine Ev.bind (ftext_ev oa ob_ hf) ?_
  simp only [if_true]
  exact aw2
theorem RatScale : ∀ (l0_0 l0_1 l1 : List Int), l0_0.length ≤ maxLen → l0_0.length * 4 ≤ 140737488351232 → (∀ x ∈ l0_0, (Lit.int .u32 x).wf = true) → l0_1.length ≤ maxLen → l0_1.length * 4 ≤ 140737488351232 → (∀ x ∈ l0_1, (Lit.int .u32 x).wf = true) → l1.length ≤ maxLen → l1.length * 4 ≤ 140737488351232 → (∀ x ∈ l1, (Lit.int .u32 x).wf = true) → ∃ k, V.samphirelaw03_RatScale.f k l0_0 l0_1 l1 = some true := by
  intro a b c _ n0 h0 _ n1 h1 _ n2 h2
  obtain ⟨K, h⟩ := scale_ev a b c (wf_W h0) (wf_W h1) (wf_W h2) (by omega) (by omega) (by omega)
  exact ⟨K, h K (Nat.le_refl _)⟩
end Go.Proofs.YtecbbenfcepohaaDoor.Pure
