/- NatBits: a product has as many bits as both factors together, or one fewer; a sum at most one more than the longer one. No condition. -/
import Derived.Test.YtdgbeejhccogpaaDoorF3
import Derived.Test.YtdgbeejhccogpaaDoorA
import Derived.Test.YtdgbeejhccogpaaDoorB1
namespace Go.Proofs.YtdgbeejhccogpaaDoor.Pure
set_option linter.unusedSimpArgs false
set_option linter.unusedVariables false
open Go.RowKit Go.Proofs.YtdgbeejhccogpaaDoor.P Go.Proofs.YtdgbeejhccogpaaDoorW.PrintWords Go.Proofs.YtdgbeejhccogpaaDoorW.PrintLast Go.Proofs.YtdgbeejhccogpaaDoorW.PrintMore Go.Proofs.YtdgbeejhccogpaaDoor.M Go.Proofs.YtdgbeejhccogpaaDoor.F

theorem bl_mul_le (x y : Nat) : bl (x * y) ≤ bl x + bl y := bl_le (by
  rw [Nat.pow_add]; exact Nat.mul_lt_mul'' (bl_lt x) (bl_lt y))
theorem bl_pos' {x : Nat} (h : x ≠ 0) : 0 < bl x := by rw [bl_pos h]; omega
theorem bl_mul_ge {x y : Nat} (hx : x ≠ 0) (hy : y ≠ 0) : bl x + bl y ≤ bl (x * y) + 1 := by
  have a := bl_pos' hx
  have b := bl_pos' hy
  have h : (bl x - 1 + (bl y - 1)) + 1 ≤ bl (x * y) := bl_ge (by rw [Nat.pow_add]; exact Nat.mul_le_mul (bl_low hx) (bl_low hy))
  omega
theorem bl_add_le (x y : Nat) : bl (x + y) ≤ max (bl x) (bl y) + 1 := bl_le (by
  have h1 := Nat.lt_of_lt_of_le (bl_lt x) (Nat.pow_le_pow_right (by decide : 0 < 2) (Nat.le_max_left (bl x) (bl y)))
  have h2 := Nat.lt_of_lt_of_le (bl_lt y) (Nat.pow_le_pow_right (by decide : 0 < 2) (Nat.le_max_right (bl x) (bl y)))
  rw [Nat.pow_succ]; omega)
theorem bl_add_ge (x y : Nat) : max (bl x) (bl y) ≤ bl (x + y) := Nat.max_le.2 ⟨bl_mono (by omega), bl_mono (by omega)⟩
theorem pow_mono {x n m : Nat} (h : x < 4294967296 ^ n) (hm : n ≤ m) : x < 4294967296 ^ m := Nat.lt_of_lt_of_le h (Nat.pow_le_pow_right (by decide) hm)
theorem mul_pow {x y n m : Nat} (hx : x < 4294967296 ^ n) (hy : y < 4294967296 ^ m) : x * y < 4294967296 ^ (n + m) := by
  rw [Nat.pow_add]; exact Nat.mul_lt_mul'' hx hy
theorem add_pow {x y n : Nat} (hx : x < 4294967296 ^ n) (hy : y < 4294967296 ^ n) : x + y < 4294967296 ^ (n + 1) := by
  rw [Nat.pow_succ]; omega
theorem bl_960 {x n : Nat} (hx : x < 4294967296 ^ n) : bl x ≤ 32 * n := bl_le (by rw [← pow32]; exact hx)
theorem mx_nat (a b : Nat) : mx (a : Int) (b : Int) = ((max a b : Nat) : Int) := by unfold mx; split <;> omega
theorem capped_in {n : Nat} (h : n < 4294967296 ^ 64) : capped n = (lim n, 0) := by unfold capped; rw [if_pos h]
theorem bits_j1 (l : List Int) (n a b : Nat) (e : nat_Bits.f l = some (n : Int)) (ha : a ≤ 1000000) (hb : b ≤ 1000000) (h1 : max a b ≤ n) (h2 : n ≤ max a b + 1) :
    Ev (fun k => samphirelaw02_NatBits.j1 k 0 l 0 (a : Int) (b : Int) false) true := by
  refine Ev.step (fun k => samphirelaw02_NatBits.j1.eq_2 _ _ _ _ _ _ k) ?_
  have e1 : mx (a : Int) b ≤ (n : Int) := by rw [mx_nat]; omega
  have e2 : (n : Int) ≤ wrap64 (mx (a : Int) b + 1) := by rw [mx_nat, wrap64_in (by omega) (by omega)]; omega
  simp only [Bool.false_eq_true, if_false, if_true, e, Option.bind_some, ge_iff_le, if_pos e1, if_pos e2]
  exact Ev.bind awake_ev (Ev.now _)
theorem bits_j0 (x y : Nat) (hx : x < 4294967296 ^ 30) (hy : y < 4294967296 ^ 30) : Ev (fun k => samphirelaw02_NatBits.j0 k (lim x) (lim y) false) true := by
  have hx' := pow_mono hx (show 30 ≤ 64 by decide)
  have hy' := pow_mono hy (show 30 ≤ 64 by decide)
  have hm := pow_mono (mul_pow hx hy) (show 60 ≤ 64 by decide)
  have hs := pow_mono (add_pow hx hy) (show 31 ≤ 64 by decide)
  have lx := bl_960 hx
  have ly := bl_960 hy
  refine Ev.step (fun k => samphirelaw02_NatBits.j0.eq_2 _ _ _ k) ?_
  simp only [Bool.false_eq_true, if_false]
  refine Ev.bind (mul_ev x y hx' hy') ?_
  refine Ev.bind (add_ev x y hx' hy') ?_
  simp only [capped_in hm, capped_in hs, bits_eq x hx', bits_eq y hy', bits_eq _ hm, Option.bind_some]
  have J := bits_j1 (lim (x + y)) (bl (x + y)) (bl x) (bl y) (bits_eq _ hs) (by omega) (by omega) (bl_add_ge x y) (bl_add_le x y)
  by_cases c1 : x = 0
  · subst c1
    simp only [Nat.zero_mul, bl_zero, Int.ofNat_zero, gt_iff_lt, Int.lt_irrefl, if_false, if_true, bne_self_eq_false] at J ⊢
    exact J
  · have p1 := bl_pos' c1
    simp only [if_pos (show (bl x : Int) > 0 by omega), if_neg (show ¬ (bl x : Int) = 0 by omega)]
    by_cases c2 : y = 0
    · subst c2
      simp only [Nat.mul_zero, bl_zero, Int.ofNat_zero, gt_iff_lt, Int.lt_irrefl, if_false, if_true, bne_self_eq_false] at J ⊢
      exact J
    · have p2 := bl_pos' c2
      have g := bl_mul_ge c1 c2
      have l := bl_mul_le x y
      simp only [if_pos (show (bl y : Int) > 0 by omega), if_neg (show ¬ (bl y : Int) = 0 by omega)]
      rw [wrap64_in (n := (bl x : Int) + bl y) (by omega) (by omega), wrap64_in (n := (bl x : Int) + bl y - 1) (by omega) (by omega)]
      by_cases c3 : (bl (x * y) : Int) = bl x + bl y
      · simp only [if_pos c3]; exact J
      · simp only [if_neg c3, if_pos (show (bl (x * y) : Int) = bl x + bl y - 1 by omega)]; exact J
theorem NatBits : samphirelaw02_NatBits.Pure := by
  intro a b _ h2 hw0 _ h5 hw1
  have ha := wf_W hw0
  have hb := wf_W hw1
  have aw : Ev (fun k => samphirelaw02_NatBits.j0 k a b true) true := Ev.step (fun k => samphirelaw02_NatBits.j0.eq_2 _ _ _ k) (by simpa using Ev.bind awake_ev (Ev.now _))
  refine Ev.rounds (r := true) ?_
  unfold samphirelaw02_NatBits.f
  simp only [right_eq a (by omega), right_eq b (by omega), Option.bind_some]
  by_cases c1 : (a.length : Int) > 30
  · simp only [if_pos c1]; exact aw
  · simp only [if_neg c1]
    by_cases c2 : (b.length : Int) > 30
    · simp only [if_pos c2]; exact aw
    · simp only [if_neg c2]
      cases r1 : rightB a with
      | false => simp only [Bool.false_eq_true, if_false]; exact aw
      | true =>
        cases r2 : rightB b with
        | false => simp only [if_true, Bool.not_false]; exact aw
        | true =>
          obtain ⟨x, rfl, hx⟩ := right_nat ha r1
          obtain ⟨y, rfl, hy⟩ := right_nat hb r2
          simp only [if_true, Bool.not_true]
          exact bits_j0 x y (len_le.1 (by omega)) (len_le.1 (by omega))
end Go.Proofs.YtdgbeejhccogpaaDoor.Pure
