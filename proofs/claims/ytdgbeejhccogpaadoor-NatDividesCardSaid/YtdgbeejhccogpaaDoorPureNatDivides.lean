/- NatDivides: how often any limbs go in others, what is left, and what goes in both, are what the document says, or refused. No condition. -/
import Derived.Test.YtdgbeejhccogpaaDoorR6
import Derived.Test.YtdgbeejhccogpaaDoorA
namespace Go.Proofs.YtdgbeejhccogpaaDoor.Pure
set_option linter.unusedSimpArgs false
set_option linter.unusedVariables false
open Go.RowKit Go.Proofs.YtdgbeejhccogpaaDoor.P Go.Proofs.YtdgbeejhccogpaaDoorW.PrintWords Go.Proofs.YtdgbeejhccogpaaDoorW.PrintLast Go.Proofs.YtdgbeejhccogpaaDoorW.PrintMore Go.Proofs.YtdgbeejhccogpaaDoor.M Go.Proofs.YtdgbeejhccogpaaDoor.F Go.Proofs.YtdgbeejhccogpaaDoor.R

theorem nil2 : wrap64 ((([] : List Int).length : Int) + (([] : List Int).length : Int)) = 0 := by rw [List.length_nil]; exact wrap64_in (by decide) (by decide)
theorem divides_no (a b : List Int) (ha : W a) (hb : W b) (la : a.length ≤ 70) (lb : b.length ≤ 70) (h : (rightB a && rightB b) = false) : Ev (fun k => samphirelaw02_NatDivides.j0 k a b false) true := by
  have tl : Ev (fun k => samphirelaw02_NatDivides.j1 k a b [] [] 1 [] 1 true) true := by
    refine Ev.step (fun k => samphirelaw02_NatDivides.j1.eq_2 _ _ _ _ _ _ _ _ k) ?_
    simp only [if_true, nil2]
    refine Ev.bind told_no ?_
    simp only [if_true]
    exact Ev.bind awake_ev (Ev.now _)
  refine Ev.step (fun k => samphirelaw02_NatDivides.j0.eq_2 _ _ _ k) ?_
  simp only [Bool.false_eq_true, if_false]
  refine Ev.bind (div_no a b (by omega) (by omega) h) ?_
  refine Ev.bind (gcd_no a b (by omega) (by omega) h) ?_
  rw [rright_eq a ha (by omega), rright_eq b hb (by omega)]
  simp only [ob]
  cases r1 : rightB a with
  | false => simp only [Bool.false_eq_true, if_false]; exact tl
  | true =>
    rw [r1, Bool.true_and] at h
    simp only [if_true, h, Bool.not_false]
    exact tl
theorem divides_yes (x y : Nat) (hx : x < 4294967296 ^ 64) (hy : y < 4294967296 ^ 64) : Ev (fun k => samphirelaw02_NatDivides.j0 k (lim x) (lim y) false) true := by
  have lx := len_le.2 hx
  have ly := len_le.2 hy
  have lg : (lim (Nat.gcd x y)).length ≤ 64 := by
    rcases Nat.eq_zero_or_pos x with c | c
    · rw [c, Nat.gcd_zero_left]; exact ly
    · exact Nat.le_trans (len_mono (Nat.gcd_le_left y c)) lx
  have GR := rgcd_ev x y (by omega) (by omega)
  have TG := told_sub (lim (Nat.gcd x y)) (Nat.gcd x y) lg rfl
  have D := div_ev x y hx hy
  have G := gcd_ev x y hx hy
  refine Ev.step (fun k => samphirelaw02_NatDivides.j0.eq_2 _ _ _ k) ?_
  simp only [Bool.false_eq_true, if_false]
  refine Ev.bind D ?_
  refine Ev.bind G ?_
  rw [rright_eq (lim x) (W_lim x) (by omega), rright_eq (lim y) (W_lim y) (by omega), right_lim hx, right_lim hy]
  simp only [ob, if_true, Bool.not_true]
  refine Ev.step (fun k => samphirelaw02_NatDivides.j1.eq_2 _ _ _ _ _ _ _ _ k) ?_
  simp only [Bool.false_eq_true, if_false]
  refine Ev.bind GR ?_
  refine Ev.bind TG ?_
  simp only [if_true]
  by_cases c : y = 0
  · have e := (lim_len_zero y).2 c
    simp only [if_pos c, if_pos (show ((lim y).length : Int) = 0 by omega), nil2, if_true]
    exact Ev.bind awake_ev (Ev.now _)
  · have e : (lim y).length ≠ 0 := fun h => c ((lim_len_zero y).1 h)
    simp only [if_neg c, if_neg (show ¬ ((lim y).length : Int) = 0 by omega)]
    have lq := len_mono (Nat.div_le_self x y)
    have lr := len_mono (Nat.mod_le x y)
    have S1 := same_ev (lim (x / y)) (lim (x / y)) (by omega)
    have S2 := same_ev (lim (x % y)) (lim (x % y)) (by omega)
    rw [decide_eq_true rfl] at S1 S2
    refine Ev.bind (rdiv_ev x y (by omega) (by omega) (by omega)) ?_
    refine Ev.bind S1 ?_
    simp only [if_true]
    refine Ev.bind S2 ?_
    simp only [if_true]
    exact Ev.bind awake_ev (Ev.now _)
theorem NatDivides : samphirelaw02_NatDivides.Pure := by
  intro a b _ h2 hw0 _ h5 hw1
  have ha := wf_W hw0
  have hb := wf_W hw1
  have aw : Ev (fun k => samphirelaw02_NatDivides.j0 k a b true) true := Ev.step (fun k => samphirelaw02_NatDivides.j0.eq_2 _ _ _ k) (by simpa using Ev.bind awake_ev (Ev.now _))
  refine Ev.rounds (r := true) ?_
  unfold samphirelaw02_NatDivides.f
  rw [small_eq a, small_eq b]
  simp only [ob]
  by_cases c1 : a.length ≤ 70
  · simp only [decide_eq_true (show (a.length : Int) ≤ 70 by omega), if_true]
    by_cases c2 : b.length ≤ 70
    · simp only [decide_eq_true (show (b.length : Int) ≤ 70 by omega), Bool.not_true]
      cases h : (rightB a && rightB b) with
      | false => exact divides_no a b ha hb c1 c2 h
      | true =>
        obtain ⟨r1, r2⟩ := Bool.and_eq_true_iff.1 h
        obtain ⟨x, rfl, hx⟩ := right_nat ha r1
        obtain ⟨y, rfl, hy⟩ := right_nat hb r2
        exact divides_yes x y hx hy
    · simp only [decide_eq_false (show ¬ (b.length : Int) ≤ 70 by omega), Bool.not_false]
      exact aw
  · simp only [decide_eq_false (show ¬ (a.length : Int) ≤ 70 by omega), Bool.false_eq_true, if_false]
    exact aw
end Go.Proofs.YtdgbeejhccogpaaDoor.Pure
