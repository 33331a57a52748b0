/- RatMiddle: half of a sum lies between both, and is as far from either. No condition but the lists' lengths. -/
import Derived.Test.YtecbbenfcepohaaDoorS4
import Derived.Test.YtecbbenfcepohaaDoorSA
import Derived.Test.YtecbbenfcepohaaDoorVD
namespace Go.Proofs.YtecbbenfcepohaaDoor.Pure
set_option linter.unusedSimpArgs false
set_option linter.unusedVariables false
open Go.RowKit Go.Proofs.YtecbbenfcepohaaDoor.K Go.Proofs.YtecbbenfcepohaaDoor.V Go.Proofs.YtecbbenfcepohaaDoorW.PrintWords Go.Proofs.YtecbbenfcepohaaDoorW.PrintLast Go.Proofs.YtecbbenfcepohaaDoorW.PrintMore Go.Proofs.YtecbbenfcepohaaDoor.M Go.Proofs.YtecbbenfcepohaaDoor.Q Go.Proofs.YtecbbenfcepohaaDoor.R Go.Proofs.YtecbbenfcepohaaDoor.F

/-- The middle of two fractions, the first one not above the second. -/
theorem mid_core {a b c d : Nat} (ba : a < 4294967296 ^ 6) (bb : b < 4294967296 ^ 6) (bc : c < 4294967296 ^ 6) (bd : d < 4294967296 ^ 6) (fa : Fr a b) (fb : Fr c d) (le : a * d ≤ c * b) (f : Nat → Option Bool) (hf : Ev f true) :
    Ev (fun k => (rat_Add.f k (lim a) (lim b) (lim c) (lim d)).bind fun b101 => ((rat_Whole.f k 2).bind fun b106 => ((rat_Div.f k b101.1 b101.2.1 b106.1 b106.2).bind fun b109 => ((rat_Sub.f k b109.1 b109.2.1 (lim a) (lim b)).bind fun b114 => ((rat_Sub.f k (lim c) (lim d) b109.1 b109.2.1).bind fun b119 =>
      (if b109.2.2 = 0 then (if b114.2.2 = 0 then (if b119.2.2 = 0 then ((samphireref03_Same.f k b114.1 b114.2.1 b119.1 b119.2.1).bind fun t127 => (if t127 = true then f k else (some (false)))) else (some (false))) else (some (false))) else (some (false))))))) ) true := by
  have pbd : 0 < b * d := Nat.mul_pos fa.1 fb.1
  have X := sum_b 6 6 13 ba bb bc bd rfl
  have fx := red_fr (n := a * d + c * b) pbd
  have cx := red_cross (n := a * d + c * b) pbd
  refine Ev.bind (add_s 6 6 ba bb bc bd (by decide) fa fb) ?_
  refine Ev.bind (whole_ev' 2 (by decide)) ?_
  have two : (2 : Nat) < 4294967296 ^ 1 := by decide
  have one : (1 : Nat) < 4294967296 ^ 1 := by decide
  have D := fdiv_ev (ok_le X.1 (by decide)) (ok_le X.2 (by decide)) (ok_le two (by decide)) (ok_le one (by decide)) fx (show Fr 2 1 from ⟨by decide, by decide⟩)
  rw [divA_ok (by decide) (ok_le (ok_mul X.1 one) (by decide)) (ok_le (ok_mul two X.2) (by decide))] at D
  refine Ev.bind D ?_
  have p2 : 0 < 2 * (red (a * d + c * b) (b * d)).2 := by have := fx.1; omega
  have cm := red_cross (n := (red (a * d + c * b) (b * d)).1 * 1) p2
  have fm := red_fr (n := (red (a * d + c * b) (b * d)).1 * 1) p2
  have b1 : (red ((red (a * d + c * b) (b * d)).1 * 1) (2 * (red (a * d + c * b) (b * d)).2)).1 < 4294967296 ^ 14 := Nat.lt_of_le_of_lt (red_le1 _ _) (ok_mul X.1 one)
  have b2 : (red ((red (a * d + c * b) (b * d)).1 * 1) (2 * (red (a * d + c * b) (b * d)).2)).2 < 4294967296 ^ 14 := Nat.lt_of_le_of_lt (red_le2 _ _) (ok_mul two X.2)
  show Ev (fun k => (rat_Sub.f k (lim (red ((red (a * d + c * b) (b * d)).1 * 1) (2 * (red (a * d + c * b) (b * d)).2)).1) (lim (red ((red (a * d + c * b) (b * d)).1 * 1) (2 * (red (a * d + c * b) (b * d)).2)).2) (lim a) (lim b)).bind fun b114 => ((rat_Sub.f k (lim c) (lim d) (lim (red ((red (a * d + c * b) (b * d)).1 * 1) (2 * (red (a * d + c * b) (b * d)).2)).1) (lim (red ((red (a * d + c * b) (b * d)).1 * 1) (2 * (red (a * d + c * b) (b * d)).2)).2)).bind fun b119 =>
      (if (0 : Int) = 0 then (if b114.2.2 = 0 then (if b119.2.2 = 0 then ((samphireref03_Same.f k b114.1 b114.2.1 b119.1 b119.2.1).bind fun t127 => (if t127 = true then f k else (some (false)))) else (some (false))) else (some (false))) else (some (false))))) true
  generalize (red ((red (a * d + c * b) (b * d)).1 * 1) (2 * (red (a * d + c * b) (b * d)).2)).1 = n at cm fm b1 b2 ⊢
  generalize (red ((red (a * d + c * b) (b * d)).1 * 1) (2 * (red (a * d + c * b) (b * d)).2)).2 = m at cm fm b1 b2 ⊢
  generalize (red (a * d + c * b) (b * d)).1 = x at cx cm fx p2
  generalize (red (a * d + c * b) (b * d)).2 = y at cx cm fx p2
  have key : n * (2 * (b * d)) = (a * d + c * b) * m := by
    refine Nat.eq_of_mul_eq_mul_right fx.1 ?_
    have e1 : n * (2 * y) = x * 1 * m := cm
    have e2 : x * (b * d) = (a * d + c * b) * y := cx
    grind
  obtain ⟨l1, l2, e⟩ := mid a b c d n m fa.1 fb.1 fm.1 le key
  refine Ev.bind (sub_s 14 6 b1 b2 ba bb (by decide) fm fa l1) ?_
  refine Ev.bind (sub_s 6 14 bc bd b1 b2 (by decide) fb fm l2) ?_
  rw [← redA_congr e]
  simp only [show ∀ n d : Nat, (redA n d).2.2 = 0 from fun _ _ => rfl, if_true]
  refine Ev.bind (same_red _ _ (Nat.lt_of_le_of_lt (red_le1 _ _) (Nat.lt_of_le_of_lt (Nat.sub_le _ _) (ok_le (ok_mul b1 bb) (by decide)))) (Nat.lt_of_le_of_lt (red_le2 _ _) (ok_le (ok_mul b2 bb) (by decide)))) ?_
  simp only [if_true]
  exact hf
theorem middle_ev (l0 l1 l2 l3 : List Int) (h0 : W l0) (h1 : W l1) (h2 : W l2) (h3 : W l3) (n0 : l0.length ≤ 140737488351232) (n1 : l1.length ≤ 140737488351232) (n2 : l2.length ≤ 140737488351232) (n3 : l3.length ≤ 140737488351232) : Ev (fun k => samphirelaw03_RatMiddle.f k l0 l1 l2 l3) true := by
  have aw : Ev (fun k => (samphirelaw03_awake.f k).bind fun t => (some t : Option Bool)) true := Ev.bind rawake_ev (Ev.now _)
  unfold samphirelaw03_RatMiddle.f
  by_cases c0 : 6 < (l0.length : Int)
  · simp only [if_pos c0]; exact aw
  simp only [if_neg c0]
  by_cases c1 : 6 < (l1.length : Int)
  · simp only [if_pos c1]; exact aw
  simp only [if_neg c1]
  refine Ev.bind (fright_ev l0 l1 h0 h1 (by omega) (by omega)) ?_
  cases f1 : frB l0 l1 with
  | false => simp only [Bool.false_eq_true, if_false]; exact aw
  | true =>
  simp only [if_true]
  by_cases c2 : 6 < (l2.length : Int)
  · simp only [if_pos c2]; exact aw
  simp only [if_neg c2]
  by_cases c3 : 6 < (l3.length : Int)
  · simp only [if_pos c3]; exact aw
  simp only [if_neg c3]
  refine Ev.bind (fright_ev l2 l3 h2 h3 (by omega) (by omega)) ?_
  cases f2 : frB l2 l3 with
  | false => simp only [Bool.false_eq_true, if_false]; exact aw
  | true =>
  simp only [if_true]
  obtain ⟨a, b, rfl, rfl, oa, ob_, fa⟩ := frB_nat h0 h1 f1
  obtain ⟨c, d, rfl, rfl, oc, od, fb⟩ := frB_nat h2 h3 f2
  have ba := six c0
  have bb := six c1
  have bc := six c2
  have bd := six c3
  have C := fcmp_ev oa ob_ oc od fa fb
  rw [show cmpA (a * d) (c * b) = (cmpI (a * d) (c * b), 0) from if_pos ⟨ok_le (ok_mul ba bd) (by decide), ok_le (ok_mul bc bb) (by decide)⟩] at C
  refine Ev.bind C ?_
  by_cases le : a * d ≤ c * b
  · simp only [if_neg (show ¬ (0 < cmpI (a * d) (c * b)) by unfold cmpI; split; decide; rw [if_pos (by omega)]; decide)]
    exact mid_core ba bb bc bd fa fb le _ aw
  · simp only [if_pos (show 0 < cmpI (a * d) (c * b) by unfold cmpI; rw [if_neg (by omega), if_neg (by omega)]; decide)]
    exact mid_core bc bd ba bb fb fa (by omega) _ aw
theorem RatMiddle : ∀ (l0_0 l0_1 l1_0 l1_1 : List Int), l0_0.length ≤ maxLen → l0_0.length * 4 ≤ 140737488351232 → (∀ x ∈ l0_0, (Lit.int .u32 x).wf = true) → l0_1.length ≤ maxLen → l0_1.length * 4 ≤ 140737488351232 → (∀ x ∈ l0_1, (Lit.int .u32 x).wf = true) → l1_0.length ≤ maxLen → l1_0.length * 4 ≤ 140737488351232 → (∀ x ∈ l1_0, (Lit.int .u32 x).wf = true) → l1_1.length ≤ maxLen → l1_1.length * 4 ≤ 140737488351232 → (∀ x ∈ l1_1, (Lit.int .u32 x).wf = true) → ∃ k, V.samphirelaw03_RatMiddle.f k l0_0 l0_1 l1_0 l1_1 = some true := by
  intro a b c d _ n0 h0 _ n1 h1 _ n2 h2 _ n3 h3
  obtain ⟨K, h⟩ := middle_ev a b c d (wf_W h0) (wf_W h1) (wf_W h2) (wf_W h3) (by omega) (by omega) (by omega) (by omega)
  exact ⟨K, h K (Nat.le_refl _)⟩
end Go.Proofs.YtecbbenfcepohaaDoor.Pure
