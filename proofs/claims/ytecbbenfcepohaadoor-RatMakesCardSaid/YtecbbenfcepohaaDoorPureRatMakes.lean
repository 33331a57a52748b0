/- RatMakes: what is made of any two limbs is what the document says, or refused; it is a fraction. No condition but the lists' lengths. -/
import Derived.Test.YtecbbenfcepohaaDoorS1
import Derived.Test.YtecbbenfcepohaaDoorSA
namespace Go.Proofs.YtecbbenfcepohaaDoor.Pure
set_option linter.unusedSimpArgs false
set_option linter.unusedVariables false
open Go.RowKit Go.Proofs.YtecbbenfcepohaaDoor.K Go.Proofs.YtecbbenfcepohaaDoor.V Go.Proofs.YtecbbenfcepohaaDoorW.PrintWords Go.Proofs.YtecbbenfcepohaaDoorW.PrintLast Go.Proofs.YtecbbenfcepohaaDoorW.PrintMore Go.Proofs.YtecbbenfcepohaaDoor.M Go.Proofs.YtecbbenfcepohaaDoor.Q Go.Proofs.YtecbbenfcepohaaDoor.R Go.Proofs.YtecbbenfcepohaaDoor.F

theorem makes_ev (a b : List Int) (n : Nat) (ha : W a) (hb : W b) (hn : n < 18446744073709551616) : Ev (fun k => samphirelaw03_RatMakes.f k a b (n : Int)) true := by
  have aw : Ev (fun k => (samphirelaw03_awake.f k).bind fun t => (some t : Option Bool)) true := Ev.bind rawake_ev (Ev.now _)
  have aw2 : Ev (fun k => (samphirelaw03_awake.f k).bind fun t => if t = true then (some true : Option Bool) else some false) true := Ev.bind rawake_ev (Ev.now _)
  unfold samphirelaw03_RatMakes.f
  by_cases c1 : 70 < (a.length : Int)
  · simp only [if_pos c1]; exact aw
  simp only [if_neg c1]
  by_cases c2 : 70 < (b.length : Int)
  · simp only [if_pos c2]; exact aw
  simp only [if_neg c2]
  have S1 := same_ev (lim n) (lim n) (by have := len_le.2 (show n < 4294967296 ^ 2 by omega); omega)
  rw [decide_eq_true rfl] at S1
  have S2 := same_ev (lim 1) [1] (by have := len_le.2 (show (1 : Nat) < 4294967296 ^ 1 by decide); omega)
  rw [decide_eq_true lim_one] at S2
  have T1 := told_ev [] [] 1 (by decide) (by decide)
  have T7 := told_ev [] [] 7 (by decide) (by decide)
  cases r1 : rightB a with
  | false =>
    refine Ev.bind (make_no a b (by omega) (by omega) (by rw [r1]; rfl)) ?_
    refine Ev.bind (whole_ev' n hn) ?_
    refine Ev.bind (rof_ev n hn) ?_
    refine Ev.bind S1 ?_
    simp only [if_true]
    refine Ev.bind S2 ?_
    simp only [if_true]
    rw [rright_eq a ha (by omega), r1]
    simp only [ob, Bool.false_eq_true, if_false]
    refine Ev.bind T1 ?_
    simp only [if_true]
    first | exact aw | exact aw2
  | true =>
    cases r2 : rightB b with
    | false =>
      refine Ev.bind (make_no a b (by omega) (by omega) (by rw [r1, r2]; rfl)) ?_
      refine Ev.bind (whole_ev' n hn) ?_
      refine Ev.bind (rof_ev n hn) ?_
      refine Ev.bind S1 ?_
      simp only [if_true]
      refine Ev.bind S2 ?_
      simp only [if_true]
      rw [rright_eq a ha (by omega), r1, rright_eq b hb (by omega), r2]
      simp only [ob, if_true, Bool.false_eq_true, if_false]
      refine Ev.bind T1 ?_
      simp only [if_true]
      first | exact aw | exact aw2
    | true =>
      rw [rright_eq a ha (by omega), r1, rright_eq b hb (by omega), r2]
      obtain ⟨x, rfl, hx⟩ := right_nat ha r1
      obtain ⟨y, rfl, hy⟩ := right_nat hb r2
      refine Ev.bind (make_ev x y hx hy) ?_
      refine Ev.bind (whole_ev' n hn) ?_
      refine Ev.bind (rof_ev n hn) ?_
      refine Ev.bind S1 ?_
      simp only [if_true]
      refine Ev.bind S2 ?_
      simp only [if_true, ob]
      by_cases c : y = 0
      · simp only [if_pos ((lenI_zero y).2 c), if_pos c]
        refine Ev.bind T7 ?_
        simp only [if_true]
        first | exact aw | exact aw2
      · simp only [if_neg (show ¬ (((lim y).length : Int) = 0) from fun h => c ((lenI_zero y).1 h)), if_neg c]
        have l1 := len_le.2 (red_lt1 (x := x) (y := y) hx)
        have l2 := len_le.2 (red_lt2 (x := x) (y := y) hy)
        refine Ev.bind (rreduce_ev x y hx hy (by omega)) ?_
        refine Ev.bind (told_ev _ _ 0 (by omega) (by omega)) ?_
        simp only [if_true]
        have R := right_ev' (red x y).1 (red x y).2 (red_lt1 hx) (red_lt2 hy)
        rw [decide_eq_true (red_fr (by omega))] at R
        refine Ev.bind R ?_
        simp only [if_true]
        first | exact aw | exact aw2
theorem RatMakes : ∀ (l0 : List Int) (l1 : List Int) (a2 : Int), l0.length ≤ maxLen → l0.length * 4 ≤ 140737488351232 → (∀ x ∈ l0, (Lit.int .u32 x).wf = true) → l1.length ≤ maxLen → l1.length * 4 ≤ 140737488351232 → (∀ x ∈ l1, (Lit.int .u32 x).wf = true) → (Lit.int .u64 a2).wf = true → ∃ k, V.samphirelaw03_RatMakes.f k l0 l1 a2 = some true := by
  intro l0 l1 a _ _ h0 _ _ h1 ha
  obtain ⟨n, rfl, hn⟩ := u64_nat ha
  obtain ⟨K, h⟩ := makes_ev l0 l1 n (wf_W h0) (wf_W h1) hn
  exact ⟨K, h K (Nat.le_refl _)⟩
end Go.Proofs.YtecbbenfcepohaaDoor.Pure
