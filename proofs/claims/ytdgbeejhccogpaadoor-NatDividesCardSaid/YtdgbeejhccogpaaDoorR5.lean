/- The document's answer: Div and Gcd, in numbers. No condition beyond the lists' lengths. -/
import Derived.Test.YtdgbeejhccogpaaDoorR4
import Derived.Test.YtdgbeejhccogpaaDoorB1
namespace Go.Proofs.YtdgbeejhccogpaaDoor.R
set_option linter.unusedSimpArgs false
set_option linter.unusedVariables false
open Go.RowKit Go.Proofs.YtdgbeejhccogpaaDoor.P Go.Proofs.YtdgbeejhccogpaaDoorW.PrintWords Go.Proofs.YtdgbeejhccogpaaDoorW.PrintLast Go.Proofs.YtdgbeejhccogpaaDoorW.PrintMore Go.Proofs.YtdgbeejhccogpaaDoor.M Go.Proofs.YtdgbeejhccogpaaDoor.F

theorem step_bit (a b N q r : Nat) (hb : 0 < b) (h : N = b * q + r) (hr : r < b) (t : Nat) (ht : t ≤ 1) :
    (b ≤ 2 * r + t → (2 * N + t) / b = 2 * q + 1 ∧ (2 * N + t) % b = 2 * r + t - b) ∧ (2 * r + t < b → (2 * N + t) / b = 2 * q ∧ (2 * N + t) % b = 2 * r + t) := by
  have e : 2 * N + t = (2 * r + t) + b * (2 * q) := by rw [h, Nat.mul_add, ← Nat.mul_assoc, Nat.mul_comm 2 b, Nat.mul_assoc]; omega
  constructor
  · intro h1
    have e2 : 2 * N + t = (2 * r + t - b) + b * (2 * q + 1) := by rw [Nat.mul_add, Nat.mul_one]; omega
    rw [e2]
    exact ⟨by rw [Nat.add_mul_div_left _ _ hb, Nat.div_eq_of_lt (by omega)]; omega, by rw [Nat.add_mul_mod_self_left, Nat.mod_eq_of_lt (by omega)]⟩
  · intro h1
    rw [e]
    exact ⟨by rw [Nat.add_mul_div_left _ _ hb, Nat.div_eq_of_lt h1]; omega, by rw [Nat.add_mul_mod_self_left, Nat.mod_eq_of_lt h1]⟩
theorem dv_idx {i L : Nat} (h : i < 32 * L) (hL : L < 1073741824) : wrap64 (Int.tdiv (i : Int) 32) = ((i / 32 : Nat) : Int) ∧ IntKind.u64.wrap (Int.tmod (i : Int) 32) = ((i % 32 : Nat) : Int) ∧ i / 32 < L ∧ wrap64 ((i : Int) - 1) = (i : Int) - 1 := by
  refine ⟨?_, ?_, by omega, wrap64_in (by omega) (by omega)⟩
  · rw [tdiv_pos (by omega), wrap64_in (by omega) (by omega)]; omega
  · rw [tmod_pos (by omega), u64_in (by omega) (by omega)]; omega
theorem rdiv_l0 (a b : Nat) (hb : 0 < b) (ha : (lim a).length < 268435456) (hlb : (lim b).length < 268435456) (i : Nat) : i ≤ bl a → ∀ q r : Nat, q = a / 2 ^ i / b → r = a / 2 ^ i % b →
    Ev (fun k => samphireref02_Div.l0 k (lim a) (lim b) (lim q) (lim r) ((i : Int) - 1)) (lim (a / b), lim (a % b)) := by
  induction i with
  | zero =>
    intro hi q r hq hr
    rw [Nat.pow_zero, Nat.div_one] at hq hr
    rw [← hq, ← hr]
    refine Ev.step (f := fun _ => some (lim q, lim r)) (fun k => ?_) (Ev.now _)
    rw [samphireref02_Div.l0.eq_2, if_neg (by omega)]
  | succ i ih =>
    intro hi q r hq hr
    have hL : i < 32 * (lim a).length := by
      have : bl a ≤ 32 * (lim a).length := bl_le (by rw [← pow32]; exact len_le.1 (Nat.le_refl _))
      omega
    obtain ⟨i0, i1, i2, i3⟩ := dv_idx hL (by omega)
    have bit := rbits_bit a (i / 32) (i % 32) (Nat.mod_lt _ (by decide))
    rw [show 32 * (i / 32) + i % 32 = i from Nat.div_add_mod i 32] at bit
    have hlr : (lim r).length < 268435456 := by
      have := len_mono (show r ≤ b by rw [hr]; exact Nat.le_of_lt (Nat.mod_lt _ hb))
      omega
    have hlq : (lim q).length < 268435456 := by
      have := len_mono (show q ≤ a by rw [hq]; exact Nat.le_trans (Nat.div_le_self _ _) (Nat.div_le_self _ _))
      omega
    obtain ⟨t, ht⟩ : ∃ t, t = a / 2 ^ i % 2 := ⟨_, rfl⟩
    rw [← ht] at bit
    have t1 : t ≤ 1 := by omega
    have hN : a / 2 ^ i = 2 * (a / 2 ^ (i + 1)) + t := by
      have : a / 2 ^ (i + 1) = a / 2 ^ i / 2 := by rw [Nat.pow_succ, Nat.div_div_eq_div_mul]
      omega
    have hr1 : r < b := by rw [hr]; exact Nat.mod_lt _ hb
    have hqr : a / 2 ^ (i + 1) = b * q + r := by rw [hq, hr, Nat.div_add_mod]
    obtain ⟨s1, s2⟩ := step_bit a b _ q r hb hqr hr1 t t1
    rw [← hN] at s1 s2
    have tl : (lim (2 * r + t)).length < 1073741824 := by
      have h1 : r < 4294967296 ^ (lim r).length := len_le.1 (Nat.le_refl _)
      have h2 : (lim (2 * r + t)).length ≤ (lim r).length + 1 := len_le.2 (by rw [Nat.pow_succ]; omega)
      omega
    have hp : (((i + 1 : Nat) : Int) - 1) = (i : Int) := by omega
    have p0 : (i : Int) ≥ 0 := n_nn i
    rw [hp]
    refine Ev.step (fun k => samphireref02_Div.l0.eq_2 _ _ _ _ _ k) ?_
    rw [i0, i1, rd_nat, bit]
    simp only [if_pos p0, if_pos (n_nn (i / 32)), if_pos (n_lt i2), if_pos (n_nn (i % 32)), i3]
    refine Ev.bind (twice_ev r t t1 (by omega)) ?_
    refine Ev.bind (rcmp_ev (2 * r + t) b (by omega) (by omega)) ?_
    by_cases c : 2 * r + t < b
    · obtain ⟨u1, u2⟩ := s2 c
      have hc : ¬ cmpI (2 * r + t) b ≥ 0 := by unfold cmpI; rw [if_pos c]; omega
      simp only [if_neg hc]
      have T := twice_ev q 0 (by omega) (by omega)
      refine Ev.bind T ?_
      exact ih (by omega) _ _ u1.symm u2.symm
    · obtain ⟨u1, u2⟩ := s1 (by omega)
      have hc : cmpI (2 * r + t) b ≥ 0 := by unfold cmpI; rw [if_neg c]; split <;> omega
      simp only [if_pos hc]
      refine Ev.bind (rsub_ev (2 * r + t) b tl (by omega)) ?_
      have T := twice_ev q 1 (by omega) (by omega)
      refine Ev.bind T ?_
      exact ih (by omega) _ _ u1.symm u2.symm
theorem rdiv_ev (a b : Nat) (hb : 0 < b) (ha : (lim a).length < 268435456) (hlb : (lim b).length < 268435456) : Ev (fun k => samphireref02_Div.f k (lim a) (lim b)) (lim (a / b), lim (a % b)) := by
  unfold samphireref02_Div.f
  refine Ev.bind (rbits_ev a (by omega)) ?_
  have z : a / 2 ^ bl a = 0 := Nat.div_eq_of_lt (bl_lt a)
  have L := rdiv_l0 a b hb ha hlb (bl a) (Nat.le_refl _) 0 0 (by rw [z, Nat.zero_div]) (by rw [z, Nat.zero_mod])
  rw [lim_zero] at L
  have hB : bl a ≤ 32 * (lim a).length := bl_le (by rw [← pow32]; exact len_le.1 (Nat.le_refl _))
  rw [wrap64_in (by omega) (by omega)]
  exact L
theorem rgcd_l4 (t : Nat) : ∀ y : Nat, (lim y).length + t < 1000000 → Ev (fun k => samphireref02_Gcd.l4 k (lim y) (t : Int)) (lim (2 ^ t * y)) := by
  induction t with
  | zero =>
    intro y h
    refine Ev.step (f := fun _ => some (lim y)) (fun k => ?_) (by rw [Nat.pow_zero, Nat.one_mul]; exact Ev.now _)
    rw [samphireref02_Gcd.l4.eq_2, if_neg (by omega)]
  | succ t ih =>
    intro y h
    have h1 : y < 4294967296 ^ (lim y).length := len_le.1 (Nat.le_refl _)
    have h2 : (lim (2 * y + 0)).length ≤ (lim y).length + 1 := len_le.2 (by rw [Nat.pow_succ]; omega)
    have w : wrap64 (((t + 1 : Nat) : Int) - 1) = (t : Int) := by rw [wrap64_in (by omega) (by omega)]; omega
    have p : ((t + 1 : Nat) : Int) > 0 := by omega
    refine Ev.step (fun k => samphireref02_Gcd.l4.eq_2 _ _ k) ?_
    simp only [if_pos p, w]
    refine Ev.bind (twice_ev y 0 (by omega) (by clear w; omega)) ?_
    have L := ih (2 * y + 0) (by clear w; omega)
    rw [show 2 ^ (t + 1) * y = 2 ^ t * (2 * y + 0) from by rw [Nat.pow_succ, Nat.mul_assoc]; rfl]
    exact L
end Go.Proofs.YtdgbeejhccogpaaDoor.R
