/- The program's fractions: what each function answers, of naturals. No condition but the bounds told. -/
import Derived.Test.YtecbbenfcepohaaDoorKAll
import Derived.Test.YtecbbenfcepohaaDoorV0
namespace Go.Proofs.YtecbbenfcepohaaDoor.F
set_option linter.unusedSimpArgs false
set_option linter.unusedVariables false
open Go.RowKit Go.Proofs.YtecbbenfcepohaaDoor.K Go.Proofs.YtecbbenfcepohaaDoor.V Go.Proofs.YtecbbenfcepohaaDoorW.PrintWords Go.Proofs.YtecbbenfcepohaaDoorW.PrintLast Go.Proofs.YtecbbenfcepohaaDoorW.PrintMore Go.Proofs.YtecbbenfcepohaaDoor.M Go.Proofs.YtecbbenfcepohaaDoor.Q Go.Proofs.YtecbbenfcepohaaDoor.R
/-- The bound of the limbs. -/
abbrev BB : Nat := 4294967296 ^ 64
theorem one_lt : (1 : Nat) < 4294967296 ^ 64 := by decide
theorem lim_one : lim 1 = [1] := by rw [lim_pos (by decide), show (1 : Nat) / 4294967296 = 0 from rfl, lim_zero]; rfl
theorem lenI_pos (y : Nat) : (0 < ((lim y).length : Int)) ↔ y ≠ 0 := by
  have := lim_len_zero y
  constructor
  · intro h e; have := this.2 e; omega
  · intro h
    have : ¬ (lim y).length = 0 := fun e => h (this.1 e)
    omega
theorem lenI_zero (y : Nat) : (((lim y).length : Int) = 0) ↔ y = 0 := by
  have := lim_len_zero y
  constructor
  · intro h; exact this.1 (by omega)
  · intro h; have := this.2 h; omega
theorem lenI_big (y : Nat) : (64 < ((lim y).length : Int)) ↔ ¬ y < 4294967296 ^ 64 := by
  have h := len_lt (n := y) (m := 64)
  constructor
  · intro c; have := h.1 (by omega); omega
  · intro c; have := h.2 (by omega); omega
theorem gcd_lt {x y : Nat} (hx : x < 4294967296 ^ 64) (hy : y < 4294967296 ^ 64) : Nat.gcd x y < 4294967296 ^ 64 := by
  rcases Nat.eq_zero_or_pos x with c | c
  · rw [c, Nat.gcd_zero_left]; exact hy
  · exact Nat.lt_of_le_of_lt (Nat.gcd_le_left y c) hx
theorem one_ev : Ev (fun k => rat_one.f k) (lim 1) := by
  unfold rat_one.f
  exact Ev.bind (of_ev 1 (by decide)) (Ev.now _)
theorem reduce_ev (x y : Nat) (hx : x < 4294967296 ^ 64) (hy : y < 4294967296 ^ 64) (h : 0 < y) : Ev (fun k => rat_reduce.f k (lim x) (lim y)) (lim (red x y).1, lim (red x y).2) := by
  have g0 := gcd_pos (n := x) h
  have gb := gcd_lt hx hy
  have D1 := div_ev x _ hx gb
  have D2 := div_ev y _ hy gb
  have G := gcd_ev x y hx hy
  rw [if_neg (by omega)] at D1 D2
  unfold rat_reduce.f
  refine Ev.bind G ?_
  refine Ev.bind D1 ?_
  exact Ev.bind D2 (Ev.now _)
instance (x y : Nat) : Decidable (Fr x y) := inferInstanceAs (Decidable (_ ∧ _))
theorem right_ev' (x y : Nat) (hx : x < 4294967296 ^ 64) (hy : y < 4294967296 ^ 64) : Ev (fun k => rat_Right.f k (lim x) (lim y)) (decide (Fr x y)) := by
  have G := gcd_ev x y hx hy
  have C := cmp_ev (Nat.gcd x y) 1 (gcd_lt hx hy) one_lt
  unfold rat_Right.f
  refine Ev.bind G ?_
  simp only [if_true]
  by_cases c : y = 0
  · simp only [if_neg (show ¬ (0 < ((lim y).length : Int)) by rw [lenI_pos]; omega)]
    rw [show decide (Fr x y) = false from decide_eq_false (fun h => by have := h.1; omega)]
    exact Ev.now _
  · simp only [if_pos ((lenI_pos y).2 c)]
    refine Ev.bind one_ev ?_
    refine Ev.bind C ?_
    have e : (cmpI (Nat.gcd x y) 1 == 0) = decide (Fr x y) := by
      unfold cmpI
      have g0 := gcd_pos (n := x) (d := y) (by omega)
      by_cases c2 : Nat.gcd x y = 1
      · rw [if_neg (by omega), if_pos c2]
        exact (decide_eq_true (show Fr x y from ⟨by omega, c2⟩)).symm
      · rw [if_neg (by omega), if_neg c2]
        exact (decide_eq_false (fun h : Fr x y => c2 h.2)).symm
    rw [← e]
    exact Ev.now _
/-- Is it a fraction? -/
def frB (a b : List Int) : Bool := rightB a && rightB b && decide (Fr (val a).toNat (val b).toNat)
theorem frB_lim (x y : Nat) (hx : x < 4294967296 ^ 64) (hy : y < 4294967296 ^ 64) : frB (lim x) (lim y) = decide (Fr x y) := by
  unfold frB
  rw [val_lim, val_lim, Int.toNat_natCast, Int.toNat_natCast, right_lim hx, right_lim hy]
  rfl
theorem frB_nat {a b : List Int} (ha : W a) (hb : W b) (h : frB a b = true) : ∃ x y, a = lim x ∧ b = lim y ∧ x < 4294967296 ^ 64 ∧ y < 4294967296 ^ 64 ∧ Fr x y := by
  unfold frB at h
  simp only [Bool.and_eq_true, decide_eq_true_eq] at h
  obtain ⟨x, rfl, hx⟩ := right_nat ha h.1.1
  obtain ⟨y, rfl, hy⟩ := right_nat hb h.1.2
  rw [val_lim, val_lim, Int.toNat_natCast, Int.toNat_natCast] at h
  exact ⟨x, y, rfl, rfl, hx, hy, h.2⟩
theorem fright_ev (a b : List Int) (ha : W a) (hb : W b) (la : a.length < 9223372036854775808) (lb : b.length < 9223372036854775808) : Ev (fun k => rat_Right.f k a b) (frB a b) := by
  cases r1 : rightB a with
  | true =>
    cases r2 : rightB b with
    | true =>
      obtain ⟨x, rfl, hx⟩ := right_nat ha r1
      obtain ⟨y, rfl, hy⟩ := right_nat hb r2
      rw [frB_lim x y hx hy]
      exact right_ev' x y hx hy
    | false =>
      rw [show frB a b = false by unfold frB; rw [r1, r2]; rfl]
      unfold rat_Right.f
      refine Ev.bind (gcd_no a b la lb (by rw [r1, r2]; rfl)) ?_
      exact Ev.now _
  | false =>
    rw [show frB a b = false by unfold frB; rw [r1]; rfl]
    unfold rat_Right.f
    refine Ev.bind (gcd_no a b la lb (by rw [r1]; rfl)) ?_
    exact Ev.now _
theorem make_ev (x y : Nat) (hx : x < 4294967296 ^ 64) (hy : y < 4294967296 ^ 64) : Ev (fun k => rat_Make.f k (lim x) (lim y)) (if y = 0 then ([], [], 7) else (lim (red x y).1, lim (red x y).2, 0)) := by
  unfold rat_Make.f
  rw [right_eq _ (by have := len_le.2 hx; omega), right_eq _ (by have := len_le.2 hy; omega), right_lim hx, right_lim hy]
  simp only [ob, if_true]
  by_cases c : y = 0
  · simp only [if_pos ((lenI_zero y).2 c), if_pos c]
    exact Ev.now _
  · simp only [if_neg (show ¬ (((lim y).length : Int) = 0) from fun h => c ((lenI_zero y).1 h)), if_neg c]
    exact Ev.bind (reduce_ev x y hx hy (by omega)) (Ev.now _)
theorem make_no (a b : List Int) (la : a.length < 9223372036854775808) (lb : b.length < 9223372036854775808) (h : (rightB a && rightB b) = false) : Ev (fun k => rat_Make.f k a b) ([], [], 1) := by
  unfold rat_Make.f
  rw [right_eq _ la, right_eq _ lb]
  cases r1 : rightB a with
  | true =>
    rw [r1] at h
    rw [show rightB b = false from h]
    simp only [ob, if_true, Bool.false_eq_true, if_false]
    exact Ev.now _
  | false =>
    simp only [ob, Bool.false_eq_true, if_false]
    exact Ev.now _
theorem whole_ev' (n : Nat) (h : n < 18446744073709551616) : Ev (fun k => rat_Whole.f k (n : Int)) (lim n, lim 1) := by
  unfold rat_Whole.f
  exact Ev.bind (of_ev n h) (Ev.bind one_ev (Ev.now _))
/-! ### The reference -/
theorem rreduce_ev (x y : Nat) (hx : x < 4294967296 ^ 64) (hy : y < 4294967296 ^ 64) (h : 0 < y) : Ev (fun k => samphireref03_Reduce.f k (lim x) (lim y)) (lim (red x y).1, lim (red x y).2) := by
  have g0 := gcd_pos (n := x) h
  have lx := len_le.2 hx
  have ly := len_le.2 hy
  have lg := len_le.2 (gcd_lt hx hy)
  unfold samphireref03_Reduce.f
  refine Ev.bind (rgcd_ev x y (by omega) (by omega)) ?_
  refine Ev.bind (rdiv_ev x _ g0 (by omega) (by omega)) ?_
  exact Ev.bind (rdiv_ev y _ g0 (by omega) (by omega)) (Ev.now _)
theorem rsame_ev (a b c d : List Int) (ha : a.length < 9223372036854775807) (hb : b.length < 9223372036854775807) : Ev (fun k => samphireref03_Same.f k a b c d) (decide (a = c ∧ b = d)) := by
  unfold samphireref03_Same.f
  refine Ev.bind (same_ev a c ha) ?_
  by_cases e : a = c
  · rw [decide_eq_true e]
    simp only [if_true]
    rw [show decide (a = c ∧ b = d) = decide (b = d) by simp [e]]
    exact Ev.bind (same_ev b d hb) (Ev.now _)
  · rw [decide_eq_false e]
    simp only [Bool.false_eq_true, if_false]
    rw [show decide (a = c ∧ b = d) = false by simp [e]]
    exact Ev.now _
theorem told_ev (a b : List Int) (e : Int) (ha : a.length < 9223372036854775807) (hb : b.length < 9223372036854775807) : Ev (fun k => samphirelaw03_told.f k a b e a b e) true := by
  unfold samphirelaw03_told.f
  refine Ev.bind (rsame_ev a b a b ha hb) ?_
  rw [decide_eq_true ⟨rfl, rfl⟩]
  simp only [if_true, beq_self_eq_true]
  exact Ev.now _
theorem red_lt1 {x y : Nat} (hx : x < 4294967296 ^ 64) : (red x y).1 < 4294967296 ^ 64 := Nat.lt_of_le_of_lt (red_le1 x y) hx
theorem red_lt2 {x y : Nat} (hy : y < 4294967296 ^ 64) : (red x y).2 < 4294967296 ^ 64 := Nat.lt_of_le_of_lt (red_le2 x y) hy
end Go.Proofs.YtecbbenfcepohaaDoor.F
