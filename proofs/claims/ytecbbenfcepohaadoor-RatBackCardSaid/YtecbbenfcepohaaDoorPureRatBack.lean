/- RatBack: what is added is taken away again, and what is multiplied by something is divided by it. No condition but the lists' lengths. -/
import Derived.Test.YtecbbenfcepohaaDoorS4
import Derived.Test.YtecbbenfcepohaaDoorSA
import Derived.Test.YtecbbenfcepohaaDoorVD
namespace Go.Proofs.YtecbbenfcepohaaDoor.Pure
set_option linter.unusedSimpArgs false
set_option linter.unusedVariables false
open Go.RowKit Go.Proofs.YtecbbenfcepohaaDoor.K Go.Proofs.YtecbbenfcepohaaDoor.V Go.Proofs.YtecbbenfcepohaaDoorW.PrintWords Go.Proofs.YtecbbenfcepohaaDoorW.PrintLast Go.Proofs.YtecbbenfcepohaaDoorW.PrintMore Go.Proofs.YtecbbenfcepohaaDoor.M Go.Proofs.YtecbbenfcepohaaDoor.Q Go.Proofs.YtecbbenfcepohaaDoor.R Go.Proofs.YtecbbenfcepohaaDoor.F

theorem back_ev (l0 l1 l2 l3 : List Int) (h0 : W l0) (h1 : W l1) (h2 : W l2) (h3 : W l3) (n0 : l0.length ≤ 140737488351232) (n1 : l1.length ≤ 140737488351232) (n2 : l2.length ≤ 140737488351232) (n3 : l3.length ≤ 140737488351232) : Ev (fun k => samphirelaw03_RatBack.f k l0 l1 l2 l3) true := by
  have aw : Ev (fun k => (samphirelaw03_awake.f k).bind fun t => (some t : Option Bool)) true := Ev.bind rawake_ev (Ev.now _)
  unfold samphirelaw03_RatBack.f
  by_cases c0 : 6 < (l0.length : Int)
  · simp only [if_pos c0]; exact aw
  simp only [if_neg c0]
  by_cases c1 : 6 < (l1.length : Int)
  · simp only [if_pos c1]; exact aw
  simp only [if_neg c1]
  refine Ev.bind (fright_ev l0 l1 h0 h1 (by omega) (by omega)) ?_
  cases f1 : frB l0 l1 with
  | false => simp only [Bool.false_eq_true, if_false]; exact aw
  | true =>
  simp only [if_true]
  by_cases c2 : 6 < (l2.length : Int)
  · simp only [if_pos c2]; exact aw
  simp only [if_neg c2]
  by_cases c3 : 6 < (l3.length : Int)
  · simp only [if_pos c3]; exact aw
  simp only [if_neg c3]
  refine Ev.bind (fright_ev l2 l3 h2 h3 (by omega) (by omega)) ?_
  cases f2 : frB l2 l3 with
  | false => simp only [Bool.false_eq_true, if_false]; exact aw
  | true =>
  simp only [if_true]
  obtain ⟨a, b, rfl, rfl, oa, ob_, hf⟩ := frB_nat h0 h1 f1
  obtain ⟨c, d, rfl, rfl, oc, od, hg⟩ := frB_nat h2 h3 f2
  have ba := six c0
  have bb := six c1
  have bc := six c2
  have bd := six c3
  have p : 0 < b * d := Nat.mul_pos hf.1 hg.1
  have s1 := ok_mul ba bd
  have s2 := ok_mul bc bb
  have s3 := ok_mul bb bd
  have s4 := ok_add s1 s2
  have A := fadd_ev oa ob_ oc od hf hg
  rw [sumA_ok (ok_le s1 (by decide)) (ok_le s2 (by decide)) (ok_le s3 (by decide)) (ok_le s4 (by decide))] at A
  refine Ev.bind A ?_
  have q1 : (red (a * d + c * b) (b * d)).1 < 4294967296 ^ 13 := Nat.lt_of_le_of_lt (red_le1 _ _) s4
  have q2 : (red (a * d + c * b) (b * d)).2 < 4294967296 ^ 12 := Nat.lt_of_le_of_lt (red_le2 _ _) s3
  have S := fsub_ev (ok_le q1 (by decide)) (ok_le q2 (by decide)) oc od (red_fr p) hg
  rw [subA_ok (ok_le (ok_mul q1 bd) (by decide)) (ok_le (ok_mul bc q2) (by decide)) (ok_le (ok_mul q2 bd) (by decide)) (back_le a b c d hf.1 hg.1)] at S
  refine Ev.bind S ?_
  have m1 := ok_mul ba bc
  have M := fmul_ev oa ob_ oc od hf hg
  rw [mulA_ok (ok_le m1 (by decide)) (ok_le s3 (by decide))] at M
  refine Ev.bind M ?_
  have r1 : (red (a * c) (b * d)).1 < 4294967296 ^ 12 := Nat.lt_of_le_of_lt (red_le1 _ _) m1
  have r2 : (red (a * c) (b * d)).2 < 4294967296 ^ 12 := Nat.lt_of_le_of_lt (red_le2 _ _) s3
  have D := fdiv_ev (ok_le r1 (by decide)) (ok_le r2 (by decide)) oc od (red_fr p) hg
  have sa := same_self (lim a) (lim b) (by omega) (by omega)
  by_cases e : c = 0
  · rw [show divA (red (a * c) (b * d)).1 (red (a * c) (b * d)).2 c d = ([], [], 7) from if_pos e] at D
    refine Ev.bind D ?_
    simp only [if_pos ((lenI_zero c).2 e), if_true]
    have hd1 : d = 1 := by have := hg.2; rw [e, Nat.gcd_zero_left] at this; exact this
    have er : red (a * d + c * b) (b * d) = (a, b) := by rw [e, hd1, Nat.mul_one, Nat.zero_mul, Nat.add_zero, Nat.mul_one, red_self hf]
    have e2 : redA (a * d + c * b) (b * d) = (lim a, lim b, 0) := by unfold redA; rw [er]
    rw [e2]
    refine Ev.bind sa ?_
    simp only [if_true]
    exact aw
  · rw [divA_ok e (ok_le (ok_mul r1 bd) (by decide)) (ok_le (ok_mul bc r2) (by decide))] at D
    refine Ev.bind D ?_
    have e1 : redA ((red (a * d + c * b) (b * d)).1 * d - c * (red (a * d + c * b) (b * d)).2) ((red (a * d + c * b) (b * d)).2 * d) = (lim a, lim b, 0) := by
      unfold redA; rw [back_sub a b c d hf hg.1]
    have e2 : redA ((red (a * c) (b * d)).1 * d) (c * (red (a * c) (b * d)).2) = (lim a, lim b, 0) := by
      unfold redA; rw [Nat.mul_comm c, back_div a b c d hf hg.1 (by omega)]
    rw [e1, e2]
    simp only [if_neg (show ¬ (((lim c).length : Int) = 0) from fun h => e ((lenI_zero c).1 h)), show (redA (a * d + c * b) (b * d)).2.2 = 0 from rfl, show (redA (a * c) (b * d)).2.2 = 0 from rfl, if_true]
    refine Ev.bind sa ?_
    simp only [if_true]
    refine Ev.bind sa ?_
    simp only [if_true]
    exact aw
theorem RatBack : ∀ (l0_0 l0_1 l1_0 l1_1 : List Int), l0_0.length ≤ maxLen → l0_0.length * 4 ≤ 140737488351232 → (∀ x ∈ l0_0, (Lit.int .u32 x).wf = true) → l0_1.length ≤ maxLen → l0_1.length * 4 ≤ 140737488351232 → (∀ x ∈ l0_1, (Lit.int .u32 x).wf = true) → l1_0.length ≤ maxLen → l1_0.length * 4 ≤ 140737488351232 → (∀ x ∈ l1_0, (Lit.int .u32 x).wf = true) → l1_1.length ≤ maxLen → l1_1.length * 4 ≤ 140737488351232 → (∀ x ∈ l1_1, (Lit.int .u32 x).wf = true) → ∃ k, V.samphirelaw03_RatBack.f k l0_0 l0_1 l1_0 l1_1 = some true := by
  intro a b c d _ n0 h0 _ n1 h1 _ n2 h2 _ n3 h3
  obtain ⟨K, h⟩ := back_ev a b c d (wf_W h0) (wf_W h1) (wf_W h2) (wf_W h3) (by omega) (by omega) (by omega) (by omega)
  exact ⟨K, h K (Nat.le_refl _)⟩
end Go.Proofs.YtecbbenfcepohaaDoor.Pure
