/- NatSquares: the difference of two squares is the product of the sum and the difference. No condition. (Over the print Q of that law alone.) -/
import Derived.Test.YtdgbeejhccogpaaDoorQF3
import Derived.Test.YtdgbeejhccogpaaDoorQA
namespace Go.Proofs.YtdgbeejhccogpaaDoor.Pure
set_option linter.unusedSimpArgs false
set_option linter.unusedVariables false
open Go.RowKit Go.Proofs.YtdgbeejhccogpaaDoor.Q Go.Proofs.YtdgbeejhccogpaaDoorW.PrintWords Go.Proofs.YtdgbeejhccogpaaDoorW.PrintLast Go.Proofs.YtdgbeejhccogpaaDoorW.PrintMore Go.Proofs.YtdgbeejhccogpaaDoor.M Go.Proofs.YtdgbeejhccogpaaDoor.F

theorem ob {α β : Type} (a : α) (f : α → Option β) : (some a).bind f = f a := Eq.trans (Eq.refl _) (Eq.symm (Eq.refl _))
theorem cap_lt {n : Nat} (h : n < 4294967296 ^ 64) : capped n = (lim n, 0) := by unfold capped; rw [if_pos h]
theorem up64 {x n : Nat} (h : x < 4294967296 ^ n) (hm : n ≤ 64) : x < 4294967296 ^ 64 := Nat.lt_of_lt_of_le h (Nat.pow_le_pow_right (by decide) hm)
theorem mul30 {x y n m : Nat} (hx : x < 4294967296 ^ n) (hy : y < 4294967296 ^ m) (h : n + m ≤ 64) : x * y < 4294967296 ^ 64 :=
  up64 (show x * y < 4294967296 ^ (n + m) by rw [Nat.pow_add]; exact Nat.mul_lt_mul'' hx hy) h
theorem sq_all (x y : Nat) (hx : x < 4294967296 ^ 30) (hy : y < 4294967296 ^ 30) (h : y ≤ x) :
    Ev (fun k => nat_Mul.f k (lim x) (lim x)) (lim (x * x), 0) ∧ Ev (fun k => nat_Mul.f k (lim y) (lim y)) (lim (y * y), 0) ∧
    Ev (fun k => nat_Sub.f k (lim (x * x)) (lim (y * y))) (lim (x * x - y * y), 0) ∧ Ev (fun k => nat_Add.f k (lim x) (lim y)) (lim (x + y), 0) ∧
    Ev (fun k => nat_Sub.f k (lim x) (lim y)) (lim (x - y), 0) ∧ Ev (fun k => nat_Mul.f k (lim (x + y)) (lim (x - y))) (lim (x * x - y * y), 0) ∧
    Ev (fun k => samphireref02_Same.f k (lim (x * x - y * y)) (lim (x * x - y * y))) true := by
  have hx' := up64 hx (by decide)
  have hy' := up64 hy (by decide)
  have xx := mul30 hx hx (by decide)
  have yy := mul30 hy hy (by decide)
  have hs : x + y < 4294967296 ^ 31 := by rw [Nat.pow_succ]; omega
  have hs' := up64 hs (by decide)
  have hd : x - y < 4294967296 ^ 30 := by omega
  have hd' := up64 hd (by decide)
  have hm := mul30 hs hd (by decide)
  have le : y * y ≤ x * x := Nat.mul_le_mul h h
  have M1 := mul_ev x x hx' hx'
  have M2 := mul_ev y y hy' hy'
  have S1 := sub_ev (x * x) (y * y) xx yy
  have A1 := add_ev x y hx' hy'
  have S2 := sub_ev x y hx' hy'
  have M3 := mul_ev (x + y) (x - y) hs' hd'
  have ld := len_le.2 (show x * x - y * y < 4294967296 ^ 64 by omega)
  have E := same_ev (lim (x * x - y * y)) (lim (x * x - y * y)) (by omega)
  rw [decide_eq_true rfl] at E
  rw [cap_lt xx] at M1
  rw [cap_lt yy] at M2
  rw [if_neg (by omega)] at S1 S2
  rw [cap_lt hs'] at A1
  rw [cap_lt hm, ← Nat.mul_self_sub_mul_self_eq] at M3
  exact ⟨M1, M2, S1, A1, S2, M3, E⟩
theorem squares_j0 (x y : Nat) (hx : x < 4294967296 ^ 30) (hy : y < 4294967296 ^ 30) : Ev (fun k => samphirelaw02_NatSquares.j0 k (lim x) (lim y) false) true := by
  have C := cmp_ev x y (up64 hx (by decide)) (up64 hy (by decide))
  refine Ev.step (fun k => samphirelaw02_NatSquares.j0.eq_2 _ _ _ k) ?_
  simp only [Bool.false_eq_true, if_false]
  refine Ev.bind C ?_
  by_cases c : x < y
  · have hc : cmpI x y < 0 := by unfold cmpI; rw [if_pos c]; omega
    obtain ⟨a1, a2, a3, a4, a5, a6, a7⟩ := sq_all y x hy hx (by omega)
    simp only [if_pos hc]
    refine Ev.bind a1 ?_
    refine Ev.bind a2 ?_
    refine Ev.bind a3 ?_
    refine Ev.bind a4 ?_
    refine Ev.bind a5 ?_
    refine Ev.bind a6 ?_
    simp only [if_true]
    refine Ev.bind a7 ?_
    simp only [if_true]
    exact Ev.bind awake_ev (Ev.now _)
  · have hc : ¬ cmpI x y < 0 := by unfold cmpI; rw [if_neg c]; split <;> omega
    obtain ⟨a1, a2, a3, a4, a5, a6, a7⟩ := sq_all x y hx hy (by omega)
    simp only [if_neg hc]
    refine Ev.bind a1 ?_
    refine Ev.bind a2 ?_
    refine Ev.bind a3 ?_
    refine Ev.bind a4 ?_
    refine Ev.bind a5 ?_
    refine Ev.bind a6 ?_
    simp only [if_true]
    refine Ev.bind a7 ?_
    simp only [if_true]
    exact Ev.bind awake_ev (Ev.now _)
theorem NatSquares : samphirelaw02_NatSquares.Pure := by
  intro a b _ h2 hw0 _ h5 hw1
  have ha := wf_W hw0
  have hb := wf_W hw1
  have aw : Ev (fun k => samphirelaw02_NatSquares.j0 k a b true) true := Ev.step (fun k => samphirelaw02_NatSquares.j0.eq_2 _ _ _ k) (by simpa using Ev.bind awake_ev (Ev.now _))
  refine Ev.rounds (r := true) ?_
  unfold samphirelaw02_NatSquares.f
  rw [right_eq a (by omega), right_eq b (by omega)]
  simp only [ob]
  by_cases c1 : (a.length : Int) > 30
  · simp only [if_pos c1]; exact aw
  · simp only [if_neg c1]
    by_cases c2 : (b.length : Int) > 30
    · simp only [if_pos c2]; exact aw
    · simp only [if_neg c2]
      cases r1 : rightB a with
      | false => simp only [Bool.false_eq_true, if_false]; exact aw
      | true =>
        cases r2 : rightB b with
        | false => simp only [if_true, Bool.not_false]; exact aw
        | true =>
          obtain ⟨x, rfl, hx⟩ := right_nat ha r1
          obtain ⟨y, rfl, hy⟩ := right_nat hb r2
          simp only [if_true, Bool.not_true]
          exact squares_j0 x y (len_le.1 (by omega)) (len_le.1 (by omega))
end Go.Proofs.YtdgbeejhccogpaaDoor.Pure
