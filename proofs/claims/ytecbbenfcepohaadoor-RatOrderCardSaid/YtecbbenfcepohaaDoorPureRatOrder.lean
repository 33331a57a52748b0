/- RatOrder: the order goes through, fractions are equal just if they have the same limbs, and a fraction is less just if it cannot be taken from. No condition but the lists' lengths. -/
import Derived.Test.YtecbbenfcepohaaDoorS4
import Derived.Test.YtecbbenfcepohaaDoorSA
import Derived.Test.YtecbbenfcepohaaDoorVE
namespace Go.Proofs.YtecbbenfcepohaaDoor.Pure
set_option linter.unusedSimpArgs false
set_option linter.unusedVariables false
open Go.RowKit Go.Proofs.YtecbbenfcepohaaDoor.K Go.Proofs.YtecbbenfcepohaaDoor.V Go.Proofs.YtecbbenfcepohaaDoorW.PrintWords Go.Proofs.YtecbbenfcepohaaDoorW.PrintLast Go.Proofs.YtecbbenfcepohaaDoorW.PrintMore Go.Proofs.YtecbbenfcepohaaDoor.M Go.Proofs.YtecbbenfcepohaaDoor.Q Go.Proofs.YtecbbenfcepohaaDoor.R Go.Proofs.YtecbbenfcepohaaDoor.F

theorem cmp_lt {x y : Nat} : cmpI x y < 0 ↔ x < y := by unfold cmpI; split; simp [*]; split <;> simp <;> omega
theorem cmp_gt {x y : Nat} : 0 < cmpI x y ↔ y < x := by unfold cmpI; split; simp; omega; split <;> simp <;> omega
theorem cmp_le {x y : Nat} : cmpI x y ≤ 0 ↔ x ≤ y := by have := cmp_gt (x := x) (y := y); omega
theorem cmp_ge {x y : Nat} : 0 ≤ cmpI x y ↔ y ≤ x := by have := cmp_lt (x := x) (y := y); omega
theorem cmp_zero {x y : Nat} : cmpI x y = 0 ↔ x = y := by have := cmp_gt (x := x) (y := y); have := cmp_lt (x := x) (y := y); omega
theorem cmp_neg (x y : Nat) : cmpI x y = wrap64 (-cmpI y x) := by
  unfold cmpI
  by_cases h : x < y
  · rw [if_pos h, if_neg (by omega), if_neg (by omega)]; exact (wrap64_in (by decide) (by decide)).symm
  · by_cases e : x = y
    · subst e; rw [if_neg h, if_pos rfl]; exact (wrap64_in (by decide) (by decide)).symm
    · rw [if_neg h, if_neg e, if_pos (by omega)]; exact (wrap64_in (by decide) (by decide)).symm
theorem order_ev (l0 l1 l2 l3 l4 l5 : List Int) (h0 : W l0) (h1 : W l1) (h2 : W l2) (h3 : W l3) (h4 : W l4) (h5 : W l5) (n0 : l0.length ≤ 140737488351232) (n1 : l1.length ≤ 140737488351232) (n2 : l2.length ≤ 140737488351232) (n3 : l3.length ≤ 140737488351232) (n4 : l4.length ≤ 140737488351232) (n5 : l5.length ≤ 140737488351232) : Ev (fun k => samphirelaw03_RatOrder.f k l0 l1 l2 l3 l4 l5) true := by
  have aw : Ev (fun k => (samphirelaw03_awake.f k).bind fun t => (some t : Option Bool)) true := Ev.bind rawake_ev (Ev.now _)
  unfold samphirelaw03_RatOrder.f
  by_cases c0 : 6 < (l0.length : Int)
  · simp only [if_pos c0]; exact aw
  simp only [if_neg c0]
  by_cases c1 : 6 < (l1.length : Int)
  · simp only [if_pos c1]; exact aw
  simp only [if_neg c1]
  refine Ev.bind (fright_ev l0 l1 h0 h1 (by omega) (by omega)) ?_
  cases f1 : frB l0 l1 with
  | false => simp only [Bool.false_eq_true, if_false]; exact aw
  | true =>
  simp only [if_true]
  by_cases c2 : 6 < (l2.length : Int)
  · simp only [if_pos c2]; exact aw
  simp only [if_neg c2]
  by_cases c3 : 6 < (l3.length : Int)
  · simp only [if_pos c3]; exact aw
  simp only [if_neg c3]
  refine Ev.bind (fright_ev l2 l3 h2 h3 (by omega) (by omega)) ?_
  cases f2 : frB l2 l3 with
  | false => simp only [Bool.false_eq_true, if_false]; exact aw
  | true =>
  simp only [if_true]
  by_cases c4 : 6 < (l4.length : Int)
  · simp only [if_pos c4]; exact aw
  simp only [if_neg c4]
  by_cases c5 : 6 < (l5.length : Int)
  · simp only [if_pos c5]; exact aw
  simp only [if_neg c5]
  refine Ev.bind (fright_ev l4 l5 h4 h5 (by omega) (by omega)) ?_
  cases f3 : frB l4 l5 with
  | false => simp only [Bool.false_eq_true, if_false]; exact aw
  | true =>
  simp only [if_true]
  obtain ⟨a, b, rfl, rfl, _, _, fa⟩ := frB_nat h0 h1 f1
  obtain ⟨c, d, rfl, rfl, _, _, fb⟩ := frB_nat h2 h3 f2
  obtain ⟨e, f, rfl, rfl, _, _, fc⟩ := frB_nat h4 h5 f3
  have ba := six c0
  have bb := six c1
  have bc := six c2
  have bd := six c3
  have be := six c4
  have bf := six c5
  have o6 : ∀ {x : Nat}, x < 4294967296 ^ 6 → okN x := fun h => ok_le h (by decide)
  have o12 : ∀ {x y : Nat}, x < 4294967296 ^ 6 → y < 4294967296 ^ 6 → okN (x * y) := fun h k => ok_le (ok_mul h k) (by decide)
  have cA : ∀ {x y : Nat}, okN x → okN y → cmpA x y = (cmpI x y, 0) := fun h k => if_pos ⟨h, k⟩
  have C1 := fcmp_ev (o6 ba) (o6 bb) (o6 bc) (o6 bd) fa fb
  have C2 := fcmp_ev (o6 bc) (o6 bd) (o6 ba) (o6 bb) fb fa
  have C3 := fcmp_ev (o6 bc) (o6 bd) (o6 be) (o6 bf) fb fc
  have C4 := fcmp_ev (o6 ba) (o6 bb) (o6 be) (o6 bf) fa fc
  rw [cA (o12 ba bd) (o12 bc bb)] at C1
  rw [cA (o12 bc bb) (o12 ba bd)] at C2
  rw [cA (o12 bc bf) (o12 be bd)] at C3
  rw [cA (o12 ba bf) (o12 be bb)] at C4
  have S := fsub_ev (o6 ba) (o6 bb) (o6 bc) (o6 bd) fa fb
  have M := rsame_ev (lim a) (lim b) (lim c) (lim d) (by omega) (by omega)
  have F1 := cross_trans a b c d e f fb.1
  have F2 := cross_trans e f c d a b fb.1
  refine Ev.bind C1 ?_
  refine Ev.bind C2 ?_
  refine Ev.bind C3 ?_
  refine Ev.bind C4 ?_
  refine Ev.bind S ?_
  have neg := cmp_neg (a * d) (c * b)
  simp only [if_true, if_pos neg]
  refine Ev.bind M ?_
  have same : (lim a = lim c ∧ lim b = lim d) ↔ a * d = c * b := by
    constructor
    · rintro ⟨h, k⟩
      rw [lim_inj h, lim_inj k]
    · intro h
      obtain ⟨h1, h2⟩ := fr_ext fa fb h
      rw [h1, h2]
      exact ⟨rfl, rfl⟩
  have s1 : a * d < c * b → (subA a b c d).2.2 = 1 := fun h => by
    unfold subA
    rw [if_pos ⟨o12 ba bd, o12 bc bb, o12 bb bd⟩, if_pos h]
  have s2 : ¬ a * d < c * b → ¬ (subA a b c d).2.2 = 1 := fun h => by
    unfold subA
    rw [if_pos ⟨o12 ba bd, o12 bc bb, o12 bb bd⟩, if_neg h]
    show ¬ ((0 : Int) = 1)
    decide
  generalize a * d = X at *
  generalize c * b = Y at *
  generalize c * f = Z at *
  generalize e * d = V at *
  generalize a * f = U at *
  generalize e * b = T at *
  rcases Nat.lt_trichotomy X Y with h | h | h
  · rw [decide_eq_false (fun k => by have := same.1 k; omega)]
    simp only [if_neg (show ¬ (cmpI X Y = 0) by rw [cmp_zero]; omega), Bool.false_eq_true, if_false, if_pos (show cmpI X Y < 0 from cmp_lt.2 h), if_pos (s1 h), if_neg (show ¬ (0 < cmpI X Y) by rw [cmp_gt]; omega)]
    by_cases g : 0 < cmpI Z V
    · simp only [if_pos g]; exact aw
    · simp only [if_neg g, if_pos (show cmpI U T ≤ 0 from cmp_le.2 (F1 (by omega) (by rw [cmp_gt] at g; omega)))]; exact aw
  · rw [decide_eq_true (same.2 h)]
    simp only [if_pos (show cmpI X Y = 0 from cmp_zero.2 h), if_true, if_neg (show ¬ (cmpI X Y < 0) by rw [cmp_lt]; omega), if_neg (s2 (by omega)), if_neg (show ¬ (0 < cmpI X Y) by rw [cmp_gt]; omega)]
    by_cases g : 0 < cmpI Z V
    · simp only [if_pos g, if_neg (show ¬ (cmpI Z V < 0) by omega), if_pos (show 0 ≤ cmpI U T from cmp_ge.2 (F2 (by rw [cmp_gt] at g; omega) (by omega)))]; exact aw
    · simp only [if_neg g, if_pos (show cmpI U T ≤ 0 from cmp_le.2 (F1 (by omega) (by rw [cmp_gt] at g; omega)))]
      by_cases g2 : cmpI Z V < 0
      · simp only [if_pos g2]; exact aw
      · simp only [if_neg g2, if_pos (show 0 ≤ cmpI U T from cmp_ge.2 (F2 (by rw [cmp_lt] at g2; omega) (by omega)))]; exact aw
  · rw [decide_eq_false (fun k => by have := same.1 k; omega)]
    simp only [if_neg (show ¬ (cmpI X Y = 0) by rw [cmp_zero]; omega), Bool.false_eq_true, if_false, if_neg (show ¬ (cmpI X Y < 0) by rw [cmp_lt]; omega), if_neg (s2 (by omega)), if_pos (show 0 < cmpI X Y from cmp_gt.2 h)]
    by_cases g2 : cmpI Z V < 0
    · simp only [if_pos g2]; exact aw
    · simp only [if_neg g2, if_pos (show 0 ≤ cmpI U T from cmp_ge.2 (F2 (by rw [cmp_lt] at g2; omega) (by omega)))]; exact aw
theorem RatOrder : ∀ (l0_0 l0_1 l1_0 l1_1 l2_0 l2_1 : List Int), l0_0.length ≤ maxLen → l0_0.length * 4 ≤ 140737488351232 → (∀ x ∈ l0_0, (Lit.int .u32 x).wf = true) → l0_1.length ≤ maxLen → l0_1.length * 4 ≤ 140737488351232 → (∀ x ∈ l0_1, (Lit.int .u32 x).wf = true) → l1_0.length ≤ maxLen → l1_0.length * 4 ≤ 140737488351232 → (∀ x ∈ l1_0, (Lit.int .u32 x).wf = true) → l1_1.length ≤ maxLen → l1_1.length * 4 ≤ 140737488351232 → (∀ x ∈ l1_1, (Lit.int .u32 x).wf = true) → l2_0.length ≤ maxLen → l2_0.length * 4 ≤ 140737488351232 → (∀ x ∈ l2_0, (Lit.int .u32 x).wf = true) → l2_1.length ≤ maxLen → l2_1.length * 4 ≤ 140737488351232 → (∀ x ∈ l2_1, (Lit.int .u32 x).wf = true) → ∃ k, V.samphirelaw03_RatOrder.f k l0_0 l0_1 l1_0 l1_1 l2_0 l2_1 = some true := by
  intro a b c d e f _ n0 h0 _ n1 h1 _ n2 h2 _ n3 h3 _ n4 h4 _ n5 h5
  obtain ⟨K, h⟩ := order_ev a b c d e f (wf_W h0) (wf_W h1) (wf_W h2) (wf_W h3) (wf_W h4) (wf_W h5) (by omega) (by omega) (by omega) (by omega) (by omega) (by omega)
  exact ⟨K, h K (Nat.le_refl _)⟩
end Go.Proofs.YtecbbenfcepohaaDoor.Pure
