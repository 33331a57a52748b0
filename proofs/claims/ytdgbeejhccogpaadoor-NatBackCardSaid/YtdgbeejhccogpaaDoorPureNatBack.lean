/- NatBack: what is divided, added, and written comes back. No condition. -/
import Derived.Test.YtdgbeejhccogpaaDoorT1
import Derived.Test.YtdgbeejhccogpaaDoorA
namespace Go.Proofs.YtdgbeejhccogpaaDoor.Pure
set_option linter.unusedSimpArgs false
set_option linter.unusedVariables false
open Go.RowKit Go.Proofs.YtdgbeejhccogpaaDoor.P Go.Proofs.YtdgbeejhccogpaaDoorW.PrintWords Go.Proofs.YtdgbeejhccogpaaDoorW.PrintLast Go.Proofs.YtdgbeejhccogpaaDoorW.PrintMore Go.Proofs.YtdgbeejhccogpaaDoor.M Go.Proofs.YtdgbeejhccogpaaDoor.F

theorem capped_lt {n : Nat} (h : n < 4294967296 ^ 64) : capped n = (lim n, 0) := by unfold capped; rw [if_pos h]
theorem cmpI_self (x : Nat) : cmpI x x = 0 := by unfold cmpI; rw [if_neg (by omega), if_pos rfl]
theorem pow_up {x n m : Nat} (h : x < 4294967296 ^ n) (hm : n ≤ m) : x < 4294967296 ^ m := Nat.lt_of_lt_of_le h (Nat.pow_le_pow_right (by decide) hm)
theorem back_j1 (x y : Nat) (hx : x < 4294967296 ^ 64) (hy : y < 4294967296 ^ 64) : Ev (fun k => samphirelaw02_NatBack.j1 k (lim x) (lim y) false) true := by
  have lx := len_le.2 hx
  have D := div_ev x y hx hy
  refine Ev.step (fun k => samphirelaw02_NatBack.j1.eq_2 _ _ _ k) ?_
  simp only [Bool.false_eq_true, if_false]
  refine Ev.bind D ?_
  by_cases c : y = 0
  · have e := (lim_len_zero y).2 c
    simp only [if_pos c, if_neg (show ¬ ((7 : Int) = 0) by decide), if_pos (show ((lim y).length : Int) = 0 by omega)]
    exact Ev.bind awake_ev (Ev.now _)
  · have q : x / y < 4294967296 ^ 64 := Nat.lt_of_le_of_lt (Nat.div_le_self _ _) hx
    have r : x % y < 4294967296 ^ 64 := Nat.lt_of_le_of_lt (Nat.mod_le _ _) hx
    have qy : x / y * y < 4294967296 ^ 64 := Nat.lt_of_le_of_lt (Nat.div_mul_le_self _ _) hx
    have e : x / y * y + x % y = x := by rw [Nat.mul_comm]; exact Nat.div_add_mod x y
    have M1 := mul_ev (x / y) y q hy
    have A1 := add_ev (x / y * y) (x % y) qy r
    rw [capped_lt qy] at M1
    rw [e, capped_lt hx] at A1
    have S := same_ev (lim x) (lim x) (by omega)
    rw [decide_eq_true rfl] at S
    have C := cmp_ev (x % y) y r hy
    have hc : cmpI (x % y) y = -1 := by unfold cmpI; rw [if_pos (Nat.mod_lt _ (by omega))]
    rw [hc] at C
    simp only [if_neg c, if_true]
    refine Ev.bind M1 ?_
    refine Ev.bind A1 ?_
    simp only [if_true]
    refine Ev.bind S ?_
    simp only [if_true]
    refine Ev.bind C ?_
    simp only [if_pos (show (-1 : Int) < 0 by decide)]
    exact Ev.bind awake_ev (Ev.now _)
theorem back_j0 (x y : Nat) (hx : x < 4294967296 ^ 30) (hy : y < 4294967296 ^ 30) : Ev (fun k => samphirelaw02_NatBack.j0 k (lim x) (lim y) false) true := by
  have hx' := pow_up hx (show 30 ≤ 64 by decide)
  have hy' := pow_up hy (show 30 ≤ 64 by decide)
  have hs : x + y < 4294967296 ^ 64 := pow_up (show x + y < 4294967296 ^ 31 by rw [Nat.pow_succ]; omega) (by decide)
  have lx := len_le.2 hx'
  have A1 := add_ev x y hx' hy'
  rw [capped_lt hs] at A1
  have S1 := sub_ev (x + y) y hs hy'
  rw [if_neg (by omega), show x + y - y = x from by omega] at S1
  obtain ⟨l, T, g, v, len⟩ := text_ev x hx'
  have R1 := read_ev l g len (by rw [v]; exact hx')
  rw [v] at R1
  have C := cmp_ev x x hx' hx'
  rw [cmpI_self] at C
  have S := same_ev (lim x) (lim x) (by omega)
  rw [decide_eq_true rfl] at S
  refine Ev.step (fun k => samphirelaw02_NatBack.j0.eq_2 _ _ _ k) ?_
  simp only [Bool.false_eq_true, if_false]
  refine Ev.bind A1 ?_
  refine Ev.bind S1 ?_
  refine Ev.bind T ?_
  refine Ev.bind R1 ?_
  simp only [if_true]
  refine Ev.bind C ?_
  simp only [if_true]
  refine Ev.bind C ?_
  simp only [if_true]
  refine Ev.bind S ?_
  simp only [if_true]
  refine Ev.bind S ?_
  simp only [Bool.not_true]
  exact back_j1 x y hx' hy'
theorem NatBack : samphirelaw02_NatBack.Pure := by
  intro a b _ h2 hw0 _ h5 hw1
  have ha := wf_W hw0
  have hb := wf_W hw1
  have aw : Ev (fun k => samphirelaw02_NatBack.j0 k a b true) true := Ev.step (fun k => samphirelaw02_NatBack.j0.eq_2 _ _ _ k) (by simpa using Ev.bind awake_ev (Ev.now _))
  refine Ev.rounds (r := true) ?_
  unfold samphirelaw02_NatBack.f
  rw [right_eq a (by omega), right_eq b (by omega)]
  simp only [ob]
  by_cases c1 : (a.length : Int) > 30
  · simp only [if_pos c1]; exact aw
  · simp only [if_neg c1]
    by_cases c2 : (b.length : Int) > 30
    · simp only [if_pos c2]; exact aw
    · simp only [if_neg c2]
      cases r1 : rightB a with
      | false => simp only [Bool.false_eq_true, if_false]; exact aw
      | true =>
        cases r2 : rightB b with
        | false => simp only [if_true, Bool.not_false]; exact aw
        | true =>
          obtain ⟨x, rfl, hx⟩ := right_nat ha r1
          obtain ⟨y, rfl, hy⟩ := right_nat hb r2
          simp only [if_true, Bool.not_true]
          exact back_j0 x y (len_le.1 (by omega)) (len_le.1 (by omega))
end Go.Proofs.YtdgbeejhccogpaaDoor.Pure
