/- RatLaws: sums and products go in any order, and in any grouping; a product by a sum is the sum of products. No condition but the lists' lengths. -/
import Derived.Test.YtecbbenfcepohaaDoorS4
import Derived.Test.YtecbbenfcepohaaDoorSA
import Derived.Test.YtecbbenfcepohaaDoorVD
namespace Go.Proofs.YtecbbenfcepohaaDoor.Pure
set_option linter.unusedSimpArgs false
set_option linter.unusedVariables false
open Go.RowKit Go.Proofs.YtecbbenfcepohaaDoor.K Go.Proofs.YtecbbenfcepohaaDoor.V Go.Proofs.YtecbbenfcepohaaDoorW.PrintWords Go.Proofs.YtecbbenfcepohaaDoorW.PrintLast Go.Proofs.YtecbbenfcepohaaDoorW.PrintMore Go.Proofs.YtecbbenfcepohaaDoor.M Go.Proofs.YtecbbenfcepohaaDoor.Q Go.Proofs.YtecbbenfcepohaaDoor.R Go.Proofs.YtecbbenfcepohaaDoor.F

theorem laws_ev (l0 l1 l2 l3 l4 l5 : List Int) (h0 : W l0) (h1 : W l1) (h2 : W l2) (h3 : W l3) (h4 : W l4) (h5 : W l5) (n0 : l0.length ≤ 140737488351232) (n1 : l1.length ≤ 140737488351232) (n2 : l2.length ≤ 140737488351232) (n3 : l3.length ≤ 140737488351232) (n4 : l4.length ≤ 140737488351232) (n5 : l5.length ≤ 140737488351232) : Ev (fun k => samphirelaw03_RatLaws.f k l0 l1 l2 l3 l4 l5) true := by
  have aw : Ev (fun k => (samphirelaw03_awake.f k).bind fun t => (some t : Option Bool)) true := Ev.bind rawake_ev (Ev.now _)
  unfold samphirelaw03_RatLaws.f
  by_cases c0 : 6 < (l0.length : Int)
  · simp only [if_pos c0]; exact aw
  simp only [if_neg c0]
  by_cases c1 : 6 < (l1.length : Int)
  · simp only [if_pos c1]; exact aw
  simp only [if_neg c1]
  refine Ev.bind (fright_ev l0 l1 h0 h1 (by omega) (by omega)) ?_
  cases f1 : frB l0 l1 with
  | false => simp only [Bool.false_eq_true, if_false]; exact aw
  | true =>
  simp only [if_true]
  by_cases c2 : 6 < (l2.length : Int)
  · simp only [if_pos c2]; exact aw
  simp only [if_neg c2]
  by_cases c3 : 6 < (l3.length : Int)
  · simp only [if_pos c3]; exact aw
  simp only [if_neg c3]
  refine Ev.bind (fright_ev l2 l3 h2 h3 (by omega) (by omega)) ?_
  cases f2 : frB l2 l3 with
  | false => simp only [Bool.false_eq_true, if_false]; exact aw
  | true =>
  simp only [if_true]
  by_cases c4 : 6 < (l4.length : Int)
  · simp only [if_pos c4]; exact aw
  simp only [if_neg c4]
  by_cases c5 : 6 < (l5.length : Int)
  · simp only [if_pos c5]; exact aw
  simp only [if_neg c5]
  refine Ev.bind (fright_ev l4 l5 h4 h5 (by omega) (by omega)) ?_
  cases f3 : frB l4 l5 with
  | false => simp only [Bool.false_eq_true, if_false]; exact aw
  | true =>
  simp only [if_true]
  obtain ⟨a, b, rfl, rfl, _, _, fa⟩ := frB_nat h0 h1 f1
  obtain ⟨c, d, rfl, rfl, _, _, fb⟩ := frB_nat h2 h3 f2
  obtain ⟨e, f, rfl, rfl, _, _, fc⟩ := frB_nat h4 h5 f3
  have ba := six c0
  have bb := six c1
  have bc := six c2
  have bd := six c3
  have be := six c4
  have bf := six c5
  have pbd : 0 < b * d := Nat.mul_pos fa.1 fb.1
  have pdf : 0 < d * f := Nat.mul_pos fb.1 fc.1
  have pbf : 0 < b * f := Nat.mul_pos fa.1 fc.1
  have X := sum_b 6 6 13 ba bb bc bd rfl
  have Q0 := sum_b 6 6 13 bc bd be bf rfl
  have V := prod_b 6 6 12 ba bb be bf rfl
  have Z := prod_b 6 6 12 bc bd be bf rfl
  refine Ev.bind (add_s 6 6 ba bb bc bd (by decide) fa fb) ?_
  refine Ev.bind (add_s 6 6 bc bd ba bb (by decide) fb fa) ?_
  refine Ev.bind (add_s 13 6 X.1 X.2 be bf (by decide) (red_fr pbd) fc) ?_
  refine Ev.bind (add_s 6 6 bc bd be bf (by decide) fb fc) ?_
  refine Ev.bind (add_s 6 13 ba bb Q0.1 Q0.2 (by decide) fa (red_fr pdf)) ?_
  refine Ev.bind (mul_s 6 6 ba bb bc bd (by decide) fa fb) ?_
  refine Ev.bind (mul_s 6 6 bc bd ba bb (by decide) fb fa) ?_
  refine Ev.bind (mul_s 13 6 X.1 X.2 be bf (by decide) (red_fr pbd) fc) ?_
  refine Ev.bind (mul_s 6 6 ba bb be bf (by decide) fa fc) ?_
  refine Ev.bind (mul_s 6 6 bc bd be bf (by decide) fb fc) ?_
  refine Ev.bind (add_s 12 12 V.1 V.2 Z.1 Z.2 (by decide) (red_fr pbf) (red_fr pdf)) ?_
  have e1 : redA (c * b + a * d) (d * b) = redA (a * d + c * b) (b * d) := by rw [Nat.add_comm, Nat.mul_comm d b]
  have e3 : redA (c * a) (d * b) = redA (a * c) (b * d) := by rw [Nat.mul_comm c a, Nat.mul_comm d b]
  have e2 := redA_congr (add_assoc' a b c d e f fa.1 fb.1 fc.1)
  have e4 := redA_congr (dist' a b c d e f fa.1 fb.1 fc.1)
  rw [e1, e3, ← e2, ← e4]
  have R1 := sum_b 13 6 20 X.1 X.2 be bf rfl
  have R2 := prod_b 6 6 12 ba bb bc bd rfl
  have R3 := prod_b 13 6 19 X.1 X.2 be bf rfl
  have l64 : ∀ {x r : Nat}, x < 4294967296 ^ r → r ≤ 64 → x < 4294967296 ^ 64 := fun h k => ok_le h k
  simp only [show ∀ n d : Nat, (redA n d).2.2 = 0 from fun _ _ => rfl, if_true]
  refine Ev.bind (same_red _ _ (l64 X.1 (by decide)) (l64 X.2 (by decide))) ?_
  simp only [if_true]
  refine Ev.bind (same_red _ _ (l64 R1.1 (by decide)) (l64 R1.2 (by decide))) ?_
  simp only [if_true]
  refine Ev.bind (same_red _ _ (l64 R2.1 (by decide)) (l64 R2.2 (by decide))) ?_
  simp only [if_true]
  refine Ev.bind (same_red _ _ (l64 R3.1 (by decide)) (l64 R3.2 (by decide))) ?_
  simp only [if_true]
  exact aw
theorem RatLaws : ∀ (l0_0 l0_1 l1_0 l1_1 l2_0 l2_1 : List Int), l0_0.length ≤ maxLen → l0_0.length * 4 ≤ 140737488351232 → (∀ x ∈ l0_0, (Lit.int .u32 x).wf = true) → l0_1.length ≤ maxLen → l0_1.length * 4 ≤ 140737488351232 → (∀ x ∈ l0_1, (Lit.int .u32 x).wf = true) → l1_0.length ≤ maxLen → l1_0.length * 4 ≤ 140737488351232 → (∀ x ∈ l1_0, (Lit.int .u32 x).wf = true) → l1_1.length ≤ maxLen → l1_1.length * 4 ≤ 140737488351232 → (∀ x ∈ l1_1, (Lit.int .u32 x).wf = true) → l2_0.length ≤ maxLen → l2_0.length * 4 ≤ 140737488351232 → (∀ x ∈ l2_0, (Lit.int .u32 x).wf = true) → l2_1.length ≤ maxLen → l2_1.length * 4 ≤ 140737488351232 → (∀ x ∈ l2_1, (Lit.int .u32 x).wf = true) → ∃ k, V.samphirelaw03_RatLaws.f k l0_0 l0_1 l1_0 l1_1 l2_0 l2_1 = some true := by
  intro a b c d e f _ n0 h0 _ n1 h1 _ n2 h2 _ n3 h3 _ n4 h4 _ n5 h5
  obtain ⟨K, h⟩ := laws_ev a b c d e f (wf_W h0) (wf_W h1) (wf_W h2) (wf_W h3) (wf_W h4) (wf_W h5) (by omega) (by omega) (by omega) (by omega) (by omega) (by omega)
  exact ⟨K, h K (Nat.le_refl _)⟩
end Go.Proofs.YtecbbenfcepohaaDoor.Pure
