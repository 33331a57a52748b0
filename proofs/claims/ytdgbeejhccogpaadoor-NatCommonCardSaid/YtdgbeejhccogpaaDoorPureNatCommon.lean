/- NatCommon: what goes in both goes in each without a rest, and what is left of both by it has nothing greater than 1 in common. No condition. -/
import Derived.Test.YtdgbeejhccogpaaDoorD6
import Derived.Test.YtdgbeejhccogpaaDoorA
namespace Go.Proofs.YtdgbeejhccogpaaDoor.Pure
set_option linter.unusedSimpArgs false
set_option linter.unusedVariables false
open Go.RowKit Go.Proofs.YtdgbeejhccogpaaDoor.P Go.Proofs.YtdgbeejhccogpaaDoorW.PrintWords Go.Proofs.YtdgbeejhccogpaaDoorW.PrintLast Go.Proofs.YtdgbeejhccogpaaDoorW.PrintMore Go.Proofs.YtdgbeejhccogpaaDoor.M Go.Proofs.YtdgbeejhccogpaaDoor.F

theorem common_j0 (x y : Nat) (hx : x < 4294967296 ^ 64) (hy : y < 4294967296 ^ 64) (h : ¬ (x = 0 ∧ y = 0)) : Ev (fun k => samphirelaw02_NatCommon.j0 k (lim x) (lim y) false) true := by
  have g0 : 0 < Nat.gcd x y := by
    rcases Nat.eq_zero_or_pos (Nat.gcd x y) with c | c
    · exact absurd ⟨Nat.eq_zero_of_gcd_eq_zero_left c, Nat.eq_zero_of_gcd_eq_zero_right c⟩ h
    · exact c
  have dx := Nat.gcd_dvd_left x y
  have dy := Nat.gcd_dvd_right x y
  have mx' := Nat.mod_eq_zero_of_dvd dx
  have my' := Nat.mod_eq_zero_of_dvd dy
  have co : Nat.gcd (x / Nat.gcd x y) (y / Nat.gcd x y) = 1 := Nat.coprime_div_gcd_div_gcd g0
  have cm : Nat.gcd y x = Nat.gcd x y := Nat.gcd_comm y x
  have gb : Nat.gcd x y < 4294967296 ^ 64 := by
    rcases Nat.eq_zero_or_pos x with c | c
    · rw [c, Nat.gcd_zero_left]; exact hy
    · exact Nat.lt_of_le_of_lt (Nat.gcd_le_left y c) hx
  have qx : x / Nat.gcd x y < 4294967296 ^ 64 := Nat.lt_of_le_of_lt (Nat.div_le_self _ _) hx
  have qy : y / Nat.gcd x y < 4294967296 ^ 64 := Nat.lt_of_le_of_lt (Nat.div_le_self _ _) hy
  have D1 := div_ev x _ hx gb
  have D2 := div_ev y _ hy gb
  have G1 := gcd_ev _ _ qx qy
  have G2 := gcd_ev y x hy hx
  have G0 := gcd_ev x y hx hy
  have lg := len_le.2 gb
  rw [cm] at G2
  rw [co] at G1
  rw [if_neg (by omega), mx', lim_zero] at D1
  rw [if_neg (by omega), my', lim_zero] at D2
  generalize Nat.gcd x y = g at D1 D2 G1 G2 G0 lg
  have S1 := same_ev (lim 1) [1] (by have := len_le.2 (show (1 : Nat) < 4294967296 ^ 1 by decide); omega)
  have S2 := same_ev (lim g) (lim g) (by omega)
  have e1 : lim 1 = [1] := by rw [lim_pos (by decide), show (1 : Nat) / 4294967296 = 0 from rfl, lim_zero]; rfl
  rw [decide_eq_true e1] at S1
  rw [decide_eq_true rfl] at S2
  have z : wrap64 ((([] : List Int).length : Int) + (([] : List Int).length : Int)) = 0 := by rw [List.length_nil]; exact wrap64_in (by decide) (by decide)
  refine Ev.step (fun k => samphirelaw02_NatCommon.j0.eq_2 _ _ _ k) ?_
  simp only [Bool.false_eq_true, if_false]
  refine Ev.bind G0 ?_
  refine Ev.bind D1 ?_
  refine Ev.bind D2 ?_
  refine Ev.bind G1 ?_
  refine Ev.bind G2 ?_
  simp only [if_true, z]
  refine Ev.bind S1 ?_
  simp only [if_true]
  refine Ev.bind S2 ?_
  simp only [if_true]
  exact Ev.bind awake_ev (Ev.now _)
theorem NatCommon : samphirelaw02_NatCommon.Pure := by
  intro a b _ h2 hw0 _ h5 hw1
  have ha := wf_W hw0
  have hb := wf_W hw1
  have aw : Ev (fun k => samphirelaw02_NatCommon.j0 k a b true) true := Ev.step (fun k => samphirelaw02_NatCommon.j0.eq_2 _ _ _ k) (by simpa using Ev.bind awake_ev (Ev.now _))
  refine Ev.rounds (r := true) ?_
  unfold samphirelaw02_NatCommon.f
  simp only [right_eq a (by omega), right_eq b (by omega), Option.bind_some]
  by_cases c1 : (a.length : Int) > 20
  · simp only [if_pos c1]; exact aw
  · simp only [if_neg c1]
    by_cases c2 : (b.length : Int) > 20
    · simp only [if_pos c2]; exact aw
    · simp only [if_neg c2]
      cases r1 : rightB a with
      | false => simp only [Bool.false_eq_true, if_false]; exact aw
      | true =>
        cases r2 : rightB b with
        | false => simp only [if_true, Bool.false_eq_true, if_false]; exact aw
        | true =>
          simp only [if_true]
          obtain ⟨x, rfl, hx⟩ := right_nat ha r1
          obtain ⟨y, rfl, hy⟩ := right_nat hb r2
          by_cases c3 : x = 0 ∧ y = 0
          · have e : (wrap64 (((lim x).length : Int) + ((lim y).length : Int)) == 0) = true := by
              rw [wrap64_in (by omega) (by omega)]
              have e1 := (lim_len_zero x).2 c3.1
              have e2 := (lim_len_zero y).2 c3.2
              exact beq_iff_eq.2 (by omega)
            rw [e]
            exact aw
          · have e : (wrap64 (((lim x).length : Int) + ((lim y).length : Int)) == 0) = false := by
              rw [wrap64_in (by omega) (by omega)]
              refine beq_eq_false_iff_ne.2 (fun h => c3 ⟨(lim_len_zero x).1 (by omega), (lim_len_zero y).1 (by omega)⟩)
            rw [e]
            exact common_j0 x y hx hy c3
end Go.Proofs.YtdgbeejhccogpaaDoor.Pure
