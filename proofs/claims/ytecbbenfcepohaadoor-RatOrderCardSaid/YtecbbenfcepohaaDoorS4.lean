/- Bounds of small fractions' answers. No condition but the bounds told. -/
import Derived.Test.YtecbbenfcepohaaDoorS2
import Derived.Test.YtecbbenfcepohaaDoorSA
import Derived.Test.YtecbbenfcepohaaDoorVD
namespace Go.Proofs.YtecbbenfcepohaaDoor.F
set_option linter.unusedSimpArgs false
set_option linter.unusedVariables false
open Go.RowKit Go.Proofs.YtecbbenfcepohaaDoor.K Go.Proofs.YtecbbenfcepohaaDoor.V Go.Proofs.YtecbbenfcepohaaDoorW.PrintWords Go.Proofs.YtecbbenfcepohaaDoorW.PrintLast Go.Proofs.YtecbbenfcepohaaDoorW.PrintMore Go.Proofs.YtecbbenfcepohaaDoor.M Go.Proofs.YtecbbenfcepohaaDoor.Q Go.Proofs.YtecbbenfcepohaaDoor.R

theorem six {x : Nat} (h : ¬ 6 < ((lim x).length : Int)) : x < 4294967296 ^ 6 := len_le.1 (by omega)
theorem ok_mul {x y a b : Nat} (hx : x < 4294967296 ^ a) (hy : y < 4294967296 ^ b) : x * y < 4294967296 ^ (a + b) := by
  rw [Nat.pow_add]
  exact Nat.mul_lt_mul'' hx hy
theorem ok_add {x y a : Nat} (hx : x < 4294967296 ^ a) (hy : y < 4294967296 ^ a) : x + y < 4294967296 ^ (a + 1) := by
  rw [Nat.pow_succ]
  omega
theorem ok_le {x a : Nat} (hx : x < 4294967296 ^ a) (h : a ≤ 64) : okN x := Nat.lt_of_lt_of_le hx (Nat.pow_le_pow_right (by decide) h)
theorem sumA_ok {a b c d : Nat} (h1 : okN (a * d)) (h2 : okN (c * b)) (h3 : okN (b * d)) (h4 : okN (a * d + c * b)) : sumA a b c d = redA (a * d + c * b) (b * d) := by
  unfold sumA
  rw [if_pos ⟨h1, h2, h3⟩, if_pos h4]
theorem subA_ok {a b c d : Nat} (h1 : okN (a * d)) (h2 : okN (c * b)) (h3 : okN (b * d)) (h4 : c * b ≤ a * d) : subA a b c d = redA (a * d - c * b) (b * d) := by
  unfold subA
  rw [if_pos ⟨h1, h2, h3⟩, if_neg (by omega)]
theorem mulA_ok {a b c d : Nat} (h1 : okN (a * c)) (h2 : okN (b * d)) : mulA a b c d = redA (a * c) (b * d) := if_pos ⟨h1, h2⟩
theorem divA_ok {a b c d : Nat} (h : c ≠ 0) (h1 : okN (a * d)) (h2 : okN (c * b)) : divA a b c d = redA (a * d) (c * b) := by
  unfold divA
  rw [if_neg h, if_pos ⟨h1, h2⟩]
theorem same_self (a b : List Int) (ha : a.length < 9223372036854775807) (hb : b.length < 9223372036854775807) : Ev (fun k => samphireref03_Same.f k a b a b) true := by
  have := rsame_ev a b a b ha hb
  rw [decide_eq_true ⟨rfl, rfl⟩] at this
  exact this
theorem add_s {a b c d : Nat} (p q : Nat) (ha : a < 4294967296 ^ p) (hb : b < 4294967296 ^ p) (hc : c < 4294967296 ^ q) (hd : d < 4294967296 ^ q) (hp : p + q + 1 ≤ 64) (h : Fr a b) (k : Fr c d) :
    Ev (fun f => rat_Add.f f (lim a) (lim b) (lim c) (lim d)) (redA (a * d + c * b) (b * d)) := by
  have s1 := ok_mul ha hd
  have s2 := ok_mul hc hb
  rw [Nat.add_comm q p] at s2
  have A := fadd_ev (ok_le ha (by omega)) (ok_le hb (by omega)) (ok_le hc (by omega)) (ok_le hd (by omega)) h k
  rwa [sumA_ok (ok_le s1 (by omega)) (ok_le s2 (by omega)) (ok_le (ok_mul hb hd) (by omega)) (ok_le (ok_add s1 s2) (by omega))] at A
theorem mul_s {a b c d : Nat} (p q : Nat) (ha : a < 4294967296 ^ p) (hb : b < 4294967296 ^ p) (hc : c < 4294967296 ^ q) (hd : d < 4294967296 ^ q) (hp : p + q + 1 ≤ 64) (h : Fr a b) (k : Fr c d) :
    Ev (fun f => rat_Mul.f f (lim a) (lim b) (lim c) (lim d)) (redA (a * c) (b * d)) := by
  have A := fmul_ev (ok_le ha (by omega)) (ok_le hb (by omega)) (ok_le hc (by omega)) (ok_le hd (by omega)) h k
  rwa [mulA_ok (ok_le (ok_mul ha hc) (by omega)) (ok_le (ok_mul hb hd) (by omega))] at A
theorem sub_s {a b c d : Nat} (p q : Nat) (ha : a < 4294967296 ^ p) (hb : b < 4294967296 ^ p) (hc : c < 4294967296 ^ q) (hd : d < 4294967296 ^ q) (hp : p + q + 1 ≤ 64) (h : Fr a b) (k : Fr c d) (le : c * b ≤ a * d) :
    Ev (fun f => rat_Sub.f f (lim a) (lim b) (lim c) (lim d)) (redA (a * d - c * b) (b * d)) := by
  have A := fsub_ev (ok_le ha (by omega)) (ok_le hb (by omega)) (ok_le hc (by omega)) (ok_le hd (by omega)) h k
  rwa [subA_ok (ok_le (ok_mul ha hd) (by omega)) (ok_le (ok_mul hc hb) (by omega)) (ok_le (ok_mul hb hd) (by omega)) le] at A
theorem sum_b {a b c d : Nat} (p q r : Nat) (ha : a < 4294967296 ^ p) (hb : b < 4294967296 ^ p) (hc : c < 4294967296 ^ q) (hd : d < 4294967296 ^ q) (hr : p + q + 1 = r) :
    (red (a * d + c * b) (b * d)).1 < 4294967296 ^ r ∧ (red (a * d + c * b) (b * d)).2 < 4294967296 ^ r := by
  have s1 := ok_mul ha hd
  have s2 := ok_mul hc hb
  rw [Nat.add_comm q p] at s2
  subst hr
  exact ⟨Nat.lt_of_le_of_lt (red_le1 _ _) (ok_add s1 s2), Nat.lt_of_le_of_lt (red_le2 _ _) (Nat.lt_of_lt_of_le (ok_mul hb hd) (Nat.pow_le_pow_right (by decide) (by omega)))⟩
theorem prod_b {a b c d : Nat} (p q r : Nat) (ha : a < 4294967296 ^ p) (hb : b < 4294967296 ^ p) (hc : c < 4294967296 ^ q) (hd : d < 4294967296 ^ q) (hr : p + q = r) :
    (red (a * c) (b * d)).1 < 4294967296 ^ r ∧ (red (a * c) (b * d)).2 < 4294967296 ^ r := by
  subst hr
  exact ⟨Nat.lt_of_le_of_lt (red_le1 _ _) (ok_mul ha hc), Nat.lt_of_le_of_lt (red_le2 _ _) (ok_mul hb hd)⟩
theorem same_red (n d : Nat) (h1 : (red n d).1 < 4294967296 ^ 64) (h2 : (red n d).2 < 4294967296 ^ 64) : Ev (fun k => samphireref03_Same.f k (redA n d).1 (redA n d).2.1 (redA n d).1 (redA n d).2.1) true :=
  same_self _ _ (by have := len_le.2 h1; show (lim _).length < _; omega) (by have := len_le.2 h2; show (lim _).length < _; omega)
theorem redA_congr {n d n' d' : Nat} (h : red n d = red n' d') : redA n d = redA n' d' := by unfold redA; rw [h]
end Go.Proofs.YtecbbenfcepohaaDoor.F
