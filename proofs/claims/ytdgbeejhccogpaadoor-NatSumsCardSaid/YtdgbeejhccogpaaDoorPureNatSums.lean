/- NatSums: the order, the sum, the difference and the product of any limbs are what the document says, or refused. No condition. -/
import Derived.Test.YtdgbeejhccogpaaDoorR3
import Derived.Test.YtdgbeejhccogpaaDoorA
import Derived.Test.YtdgbeejhccogpaaDoorB1
namespace Go.Proofs.YtdgbeejhccogpaaDoor.Pure
set_option linter.unusedSimpArgs false
set_option linter.unusedVariables false
open Go.RowKit Go.Proofs.YtdgbeejhccogpaaDoor.P Go.Proofs.YtdgbeejhccogpaaDoorW.PrintWords Go.Proofs.YtdgbeejhccogpaaDoorW.PrintLast Go.Proofs.YtdgbeejhccogpaaDoorW.PrintMore Go.Proofs.YtdgbeejhccogpaaDoor.M Go.Proofs.YtdgbeejhccogpaaDoor.F

theorem lim64 {x : Nat} (hx : x < 4294967296 ^ 64) : (lim x).length ≤ 64 := len_le.2 hx
theorem sums_j2 (x y : Nat) (hx : x < 4294967296 ^ 64) (hy : y < 4294967296 ^ 64) (hB : ∃ n, nat_Bits.f (lim x) = some n ∧ Ev (fun k => samphireref02_Bits.f k (lim x)) n) :
    Ev (fun k => samphirelaw02_NatSums.j2 k (lim x) (lim y) (capped (x + y)).1 (capped (x + y)).2 (capped (x * y)).1 (capped (x * y)).2 (cmpI x y) false) true := by
  have lx := lim64 hx
  have ly := lim64 hy
  obtain ⟨n, hn, hN⟩ := hB
  have ls : (lim (x + y)).length ≤ 65 := len_le.2 (by
    have : (4294967296 : Nat) ^ 65 = 4294967296 * 4294967296 ^ 64 := by rw [Nat.pow_succ, Nat.mul_comm]
    omega)
  have lm : (lim (x * y)).length ≤ 128 := len_le.2 (by
    rw [show (128 : Nat) = 64 + 64 from rfl, Nat.pow_add]
    exact Nat.mul_lt_mul'' hx hy)
  refine Ev.step (fun k => samphirelaw02_NatSums.j2.eq_2 _ _ _ _ _ _ _ _ k) ?_
  simp only [Bool.false_eq_true, if_false]
  refine Ev.bind (radd_ev x y (by omega) (by omega)) ?_
  refine Ev.bind (told_yes _ _ (by omega) rfl) ?_
  simp only [if_true]
  refine Ev.bind (rmul_ev x y (by omega) (by omega)) ?_
  refine Ev.bind (told_yes _ _ (by omega) rfl) ?_
  simp only [if_true]
  refine Ev.bind (cmp_ev x y hx hy) ?_
  simp only [if_true, hn, Option.bind_some]
  refine Ev.bind hN ?_
  simp only [if_true]
  exact Ev.bind awake_ev (Ev.now _)
theorem sums_j1 (x y : Nat) (hx : x < 4294967296 ^ 64) (hy : y < 4294967296 ^ 64) (hB : ∃ n, nat_Bits.f (lim x) = some n ∧ Ev (fun k => samphireref02_Bits.f k (lim x)) n) :
    Ev (fun k => samphirelaw02_NatSums.j1 k (lim x) (lim y) true) true := by
  have lx := lim64 hx
  have ly := lim64 hy
  refine Ev.step (fun k => samphirelaw02_NatSums.j1.eq_2 _ _ _ k) ?_
  simp only [right_eq (lim x) (by omega), rright_eq (lim x) (W_lim x) (by omega), Option.bind_some, bne_self_eq_false, Bool.false_eq_true, if_false, if_true]
  refine Ev.bind (add_ev x y hx hy) ?_
  refine Ev.bind (mul_ev x y hx hy) ?_
  refine Ev.bind (sub_ev x y hx hy) ?_
  refine Ev.bind (rcmp_ev x y (by omega) (by omega)) ?_
  by_cases c : x < y
  · have hc : cmpI x y = -1 := by unfold cmpI; rw [if_pos c]
    simp only [hc, if_pos c, List.length_nil]
    have := sums_j2 x y hx hy hB
    rw [hc] at this
    simpa using this
  · have hc : ¬ cmpI x y < 0 := by unfold cmpI; rw [if_neg c]; split <;> omega
    have hc' : cmpI x y ≥ 0 := by omega
    have ld := len_mono (Nat.sub_le x y)
    simp only [if_neg c, if_neg hc, if_pos hc']
    refine Ev.bind (rsub_ev x y (by omega) (by omega)) ?_
    refine Ev.bind (told_sub _ _ (by omega) rfl) ?_
    exact sums_j2 x y hx hy hB
theorem sums_no (a b : List Int) (ha : W a) (hb : W b) (la : a.length ≤ 70) (lb : b.length ≤ 70) (h : (rightB a && rightB b) = false) : Ev (fun k => samphirelaw02_NatSums.j1 k a b false) true := by
  refine Ev.step (fun k => samphirelaw02_NatSums.j1.eq_2 _ _ _ k) ?_
  simp only [right_eq a (by omega), rright_eq a ha (by omega), Option.bind_some, bne_self_eq_false, Bool.false_eq_true, if_false, if_true]
  refine Ev.bind (add_no a b (by omega) (by omega) h) ?_
  refine Ev.bind (mul_no a b (by omega) (by omega) h) ?_
  refine Ev.bind (sub_no a b (by omega) (by omega) h) ?_
  refine Ev.bind told_no ?_
  simp only [if_true]
  refine Ev.bind told_no ?_
  simp only [if_true]
  refine Ev.bind told_no ?_
  simp only [if_true]
  refine Ev.bind (cmp_no a b (by omega) (by omega) h) ?_
  simp only [if_true]
  exact Ev.bind awake_ev (Ev.now _)
theorem sums_ev (hB : ∀ x : Nat, x < 4294967296 ^ 64 → ∃ n, nat_Bits.f (lim x) = some n ∧ Ev (fun k => samphireref02_Bits.f k (lim x)) n) (a b : List Int) (ha : W a) (hb : W b) (la : a.length < 4611686018427387904) (lb : b.length < 4611686018427387904) : Ev (fun k => samphirelaw02_NatSums.f k a b) true := by
  have aw : Ev (fun k => samphirelaw02_NatSums.j0 k a b true) true := Ev.step (fun k => samphirelaw02_NatSums.j0.eq_2 _ _ _ k) (by simpa using Ev.bind awake_ev (Ev.now _))
  unfold samphirelaw02_NatSums.f
  simp only [small_eq, Option.bind_some]
  by_cases c1 : a.length ≤ 70
  · simp only [decide_eq_true (show (a.length : Int) ≤ 70 by omega), if_true]
    by_cases c2 : b.length ≤ 70
    · simp only [decide_eq_true (show (b.length : Int) ≤ 70 by omega), Bool.not_true]
      refine Ev.step (fun k => samphirelaw02_NatSums.j0.eq_2 _ _ _ k) ?_
      simp only [Bool.false_eq_true, if_false, rright_eq a ha (by omega), rright_eq b hb (by omega), Option.bind_some]
      cases r1 : rightB a with
      | false =>
        simp only [Bool.false_eq_true, if_false]
        exact sums_no a b ha hb c1 c2 (by rw [r1]; rfl)
      | true =>
        simp only [if_true]
        cases r2 : rightB b with
        | false => exact sums_no a b ha hb c1 c2 (by rw [r1, r2]; rfl)
        | true =>
          obtain ⟨x, rfl, hx⟩ := right_nat ha r1
          obtain ⟨y, rfl, hy⟩ := right_nat hb r2
          exact sums_j1 x y hx hy (hB x hx)
    · simp only [decide_eq_false (show ¬ (b.length : Int) ≤ 70 by omega), Bool.not_false]
      exact aw
  · simp only [decide_eq_false (show ¬ (a.length : Int) ≤ 70 by omega), Bool.false_eq_true, if_false]
    exact aw
theorem NatSums : samphirelaw02_NatSums.Pure := by
  intro l0 l1 _ h2 hw0 _ h5 hw1
  exact (sums_ev (fun x hx => ⟨_, bits_eq x hx, rbits_ev x (by have := lim64 hx; omega)⟩) l0 l1 (wf_W hw0) (wf_W hw1) (by omega) (by omega)).rounds
end Go.Proofs.YtdgbeejhccogpaaDoor.Pure
