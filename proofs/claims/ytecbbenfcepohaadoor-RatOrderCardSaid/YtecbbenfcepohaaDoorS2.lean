/- The program's fractions and the document's: their answers, of naturals. No condition but the bounds told. -/
import Derived.Test.YtecbbenfcepohaaDoorS1
namespace Go.Proofs.YtecbbenfcepohaaDoor.F
set_option linter.unusedSimpArgs false
set_option linter.unusedVariables false
open Go.RowKit Go.Proofs.YtecbbenfcepohaaDoor.K Go.Proofs.YtecbbenfcepohaaDoor.V Go.Proofs.YtecbbenfcepohaaDoorW.PrintWords Go.Proofs.YtecbbenfcepohaaDoorW.PrintLast Go.Proofs.YtecbbenfcepohaaDoorW.PrintMore Go.Proofs.YtecbbenfcepohaaDoor.M Go.Proofs.YtecbbenfcepohaaDoor.Q Go.Proofs.YtecbbenfcepohaaDoor.R
/-- An answer of the fractions' functions. -/
abbrev An := List Int × List Int × Int
def bigA : An := ([], [], 6)
def redA (x y : Nat) : An := (lim (red x y).1, lim (red x y).2, 0)
def okN (x : Nat) : Prop := x < 4294967296 ^ 64
instance (x : Nat) : Decidable (okN x) := inferInstanceAs (Decidable (_ < _))
theorem capped_ok {x : Nat} (h : okN x) : capped x = (lim x, 0) := if_pos h
theorem capped_big {x : Nat} (h : ¬ okN x) : capped x = ([], 6) := if_neg h
theorem both_ev {a b c d : List Int} (ha : W a) (hb : W b) (hc : W c) (hd : W d) (la : a.length < 9223372036854775808) (lb : b.length < 9223372036854775808) (lc : c.length < 9223372036854775808) (ld : d.length < 9223372036854775808) :
    Ev (fun k => rat_both.f k a b c d) (if frB a b = true ∧ frB c d = true then 0 else 1) := by
  unfold rat_both.f
  refine Ev.bind (fright_ev a b ha hb la lb) ?_
  cases h1 : frB a b with
  | false =>
    simp only [Bool.false_eq_true, if_false, false_and]
    exact Ev.now _
  | true =>
    simp only [if_true, true_and]
    refine Ev.bind (fright_ev c d hc hd lc ld) ?_
    cases h2 : frB c d with
    | false => simp only [Bool.false_eq_true, if_false]; exact Ev.now _
    | true => simp only [if_true]; exact Ev.now _
theorem both_ok {a b c d : Nat} (ha : okN a) (hb : okN b) (hc : okN c) (hd : okN d) (h : Fr a b) (k : Fr c d) : Ev (fun f => rat_both.f f (lim a) (lim b) (lim c) (lim d)) 0 := by
  have la := len_le.2 ha
  have lb := len_le.2 hb
  have lc := len_le.2 hc
  have ld := len_le.2 hd
  have E := both_ev (W_lim a) (W_lim b) (W_lim c) (W_lim d) (by omega) (by omega) (by omega) (by omega)
  rw [frB_lim a b ha hb, frB_lim c d hc hd, decide_eq_true h, decide_eq_true k] at E
  exact E
theorem cross_ev {a b c d : Nat} (ha : okN a) (hb : okN b) (hc : okN c) (hd : okN d) : Ev (fun f => rat_cross.f f (lim a) (lim b) (lim c) (lim d)) ((capped (a * d)).1, (capped (c * b)).1, mx (capped (a * d)).2 (capped (c * b)).2) := by
  unfold rat_cross.f
  refine Ev.bind (mul_ev a d ha hd) ?_
  refine Ev.bind (mul_ev c b hc hb) ?_
  simp only [ob]
  exact Ev.now _
theorem cross_mx (x y : Nat) : (mx (capped x).2 (capped y).2 = 0) ↔ okN x ∧ okN y := by
  by_cases h : okN x
  · by_cases k : okN y
    · simp [capped_ok h, capped_ok k, h, k, mx]
    · simp [capped_ok h, capped_big k, h, k, mx]
  · by_cases k : okN y
    · simp [capped_big h, capped_ok k, h, k, mx]
    · simp [capped_big h, capped_big k, h, k, mx]
theorem cross_six {x y : Nat} (h : ¬ (okN x ∧ okN y)) : mx (capped x).2 (capped y).2 = 6 := by
  by_cases h1 : okN x
  · have k : ¬ okN y := fun k => h ⟨h1, k⟩
    simp [capped_ok h1, capped_big k, mx]
  · by_cases k : okN y
    · simp [capped_big h1, capped_ok k, mx]
    · simp [capped_big h1, capped_big k, mx]
/-- The order. -/
def cmpA (x y : Nat) : Int × Int := if okN x ∧ okN y then (cmpI x y, 0) else (0, 6)
theorem fcmp_ev {a b c d : Nat} (ha : okN a) (hb : okN b) (hc : okN c) (hd : okN d) (h : Fr a b) (k : Fr c d) : Ev (fun f => rat_Cmp.f f (lim a) (lim b) (lim c) (lim d)) (cmpA (a * d) (c * b)) := by
  unfold rat_Cmp.f cmpA
  refine Ev.bind (both_ok ha hb hc hd h k) ?_
  simp only [if_true]
  refine Ev.bind (cross_ev ha hb hc hd) ?_
  by_cases o : okN (a * d) ∧ okN (c * b)
  · simp only [if_pos ((cross_mx _ _).2 o), if_pos o, capped_ok o.1, capped_ok o.2]
    exact Ev.bind (cmp_ev _ _ o.1 o.2) (Ev.now _)
  · simp only [if_neg (fun h => o ((cross_mx _ _).1 h)), if_neg o, cross_six o]
    exact Ev.now _
def sumA (a b c d : Nat) : An := if okN (a * d) ∧ okN (c * b) ∧ okN (b * d) then (if okN (a * d + c * b) then redA (a * d + c * b) (b * d) else bigA) else bigA
def subA (a b c d : Nat) : An := if okN (a * d) ∧ okN (c * b) ∧ okN (b * d) then (if a * d < c * b then ([], [], 1) else redA (a * d - c * b) (b * d)) else bigA
def mulA (a b c d : Nat) : An := if okN (a * c) ∧ okN (b * d) then redA (a * c) (b * d) else bigA
def divA (a b c d : Nat) : An := if c = 0 then ([], [], 7) else if okN (a * d) ∧ okN (c * b) then redA (a * d) (c * b) else bigA
theorem fadd_ev {a b c d : Nat} (ha : okN a) (hb : okN b) (hc : okN c) (hd : okN d) (h : Fr a b) (k : Fr c d) : Ev (fun f => rat_Add.f f (lim a) (lim b) (lim c) (lim d)) (sumA a b c d) := by
  have E : Ev (fun f => rat_joined_nat_Add.f f (lim a) (lim b) (lim c) (lim d)) (sumA a b c d) := by
    unfold rat_joined_nat_Add.f sumA
    refine Ev.bind (both_ok ha hb hc hd h k) ?_
    simp only [if_true]
    refine Ev.bind (mul_ev b d hb hd) ?_
    by_cases o1 : okN (b * d)
    · simp only [capped_ok o1, if_true]
      refine Ev.bind (cross_ev ha hb hc hd) ?_
      by_cases o : okN (a * d) ∧ okN (c * b)
      · simp only [if_pos ((cross_mx _ _).2 o), capped_ok o.1, capped_ok o.2, if_pos (show okN (a * d) ∧ okN (c * b) ∧ okN (b * d) from ⟨o.1, o.2, o1⟩)]
        refine Ev.bind (add_ev _ _ o.1 o.2) ?_
        by_cases o2 : okN (a * d + c * b)
        · simp only [capped_ok o2, if_true, if_pos o2]
          exact Ev.bind (reduce_ev _ _ o2 o1 (Nat.mul_pos h.1 k.1)) (Ev.now _)
        · simp only [capped_big o2, if_neg o2, if_neg (show ¬ ((6 : Int) = 0) by decide)]
          exact Ev.now _
      · simp only [if_neg (fun h => o ((cross_mx _ _).1 h)), cross_six o, if_neg (show ¬ (okN (a * d) ∧ okN (c * b) ∧ okN (b * d)) from fun h => o ⟨h.1, h.2.1⟩)]
        exact Ev.now _
    · simp only [capped_big o1, if_neg (show ¬ ((6 : Int) = 0) by decide), if_neg (show ¬ (okN (a * d) ∧ okN (c * b) ∧ okN (b * d)) from fun h => o1 h.2.2)]
      exact Ev.now _
  unfold rat_Add.f
  exact Ev.bind E (Ev.now _)
theorem fsub_ev {a b c d : Nat} (ha : okN a) (hb : okN b) (hc : okN c) (hd : okN d) (h : Fr a b) (k : Fr c d) : Ev (fun f => rat_Sub.f f (lim a) (lim b) (lim c) (lim d)) (subA a b c d) := by
  have E : Ev (fun f => rat_joined_nat_Sub.f f (lim a) (lim b) (lim c) (lim d)) (subA a b c d) := by
    unfold rat_joined_nat_Sub.f subA
    refine Ev.bind (both_ok ha hb hc hd h k) ?_
    simp only [if_true]
    refine Ev.bind (mul_ev b d hb hd) ?_
    by_cases o1 : okN (b * d)
    · simp only [capped_ok o1, if_true]
      refine Ev.bind (cross_ev ha hb hc hd) ?_
      by_cases o : okN (a * d) ∧ okN (c * b)
      · simp only [if_pos ((cross_mx _ _).2 o), capped_ok o.1, capped_ok o.2, if_pos (show okN (a * d) ∧ okN (c * b) ∧ okN (b * d) from ⟨o.1, o.2, o1⟩)]
        refine Ev.bind (sub_ev _ _ o.1 o.2) ?_
        by_cases o2 : a * d < c * b
        · simp only [if_pos o2, if_neg (show ¬ ((1 : Int) = 0) by decide)]
          exact Ev.now _
        · simp only [if_neg o2, if_true]
          exact Ev.bind (reduce_ev _ _ (Nat.lt_of_le_of_lt (Nat.sub_le _ _) o.1) o1 (Nat.mul_pos h.1 k.1)) (Ev.now _)
      · simp only [if_neg (fun h => o ((cross_mx _ _).1 h)), cross_six o, if_neg (show ¬ (okN (a * d) ∧ okN (c * b) ∧ okN (b * d)) from fun h => o ⟨h.1, h.2.1⟩)]
        exact Ev.now _
    · simp only [capped_big o1, if_neg (show ¬ ((6 : Int) = 0) by decide), if_neg (show ¬ (okN (a * d) ∧ okN (c * b) ∧ okN (b * d)) from fun h => o1 h.2.2)]
      exact Ev.now _
  unfold rat_Sub.f
  exact Ev.bind E (Ev.now _)
theorem over_ev {x y z v : Nat} (hx : okN x) (hy : okN y) (hz : okN z) (hv : okN v) (p : 0 < z * v) : Ev (fun f => rat_over.f f (lim x) (lim y) (lim z) (lim v)) (if okN (x * y) ∧ okN (z * v) then redA (x * y) (z * v) else bigA) := by
  unfold rat_over.f
  refine Ev.bind (mul_ev x y hx hy) ?_
  refine Ev.bind (mul_ev z v hz hv) ?_
  simp only [ob]
  by_cases o : okN (x * y) ∧ okN (z * v)
  · simp only [if_pos ((cross_mx _ _).2 o), if_pos o, capped_ok o.1, capped_ok o.2]
    exact Ev.bind (reduce_ev _ _ o.1 o.2 p) (Ev.now _)
  · simp only [if_neg (fun h => o ((cross_mx _ _).1 h)), if_neg o, cross_six o]
    exact Ev.now _
theorem fmul_ev {a b c d : Nat} (ha : okN a) (hb : okN b) (hc : okN c) (hd : okN d) (h : Fr a b) (k : Fr c d) : Ev (fun f => rat_Mul.f f (lim a) (lim b) (lim c) (lim d)) (mulA a b c d) := by
  unfold rat_Mul.f mulA
  refine Ev.bind (both_ok ha hb hc hd h k) ?_
  simp only [if_true]
  exact Ev.bind (over_ev ha hc hb hd (Nat.mul_pos h.1 k.1)) (Ev.now _)
theorem fdiv_ev {a b c d : Nat} (ha : okN a) (hb : okN b) (hc : okN c) (hd : okN d) (h : Fr a b) (k : Fr c d) : Ev (fun f => rat_Div.f f (lim a) (lim b) (lim c) (lim d)) (divA a b c d) := by
  unfold rat_Div.f divA
  refine Ev.bind (both_ok ha hb hc hd h k) ?_
  simp only [if_true]
  by_cases e : c = 0
  · simp only [if_pos ((lenI_zero c).2 e), if_pos e]
    exact Ev.now _
  · simp only [if_neg (show ¬ (((lim c).length : Int) = 0) from fun h => e ((lenI_zero c).1 h)), if_neg e]
    have O := over_ev ha hd hb hc (Nat.mul_pos h.1 (by omega))
    rw [Nat.mul_comm b c] at O
    exact Ev.bind O (Ev.now _)
/-! ### The reference -/
theorem big_eq (x y z : Nat) : samphireref03_big.f (lim x) (lim y) (lim z) = some (decide ¬ (okN x ∧ okN y ∧ okN z)) := by
  unfold samphireref03_big.f
  by_cases h1 : okN x
  · rw [if_neg (fun c => (lenI_big x).1 c h1)]
    by_cases h2 : okN y
    · rw [if_neg (fun c => (lenI_big y).1 c h2)]
      by_cases h3 : okN z
      · rw [decide_eq_false (fun c => (lenI_big z).1 c h3)]; simp [h1, h2, h3]
      · rw [decide_eq_true ((lenI_big z).2 h3)]; simp [h1, h2, h3]
    · rw [if_pos ((lenI_big y).2 h2)]; simp [h1, h2]
  · rw [if_pos ((lenI_big x).2 h1)]; simp [h1]
theorem okN_zero : okN 0 := by unfold okN; decide
theorem big_eq0 (x y : Nat) : samphireref03_big.f (lim x) (lim y) [] = some (decide ¬ (okN x ∧ okN y)) := by
  have := big_eq x y 0
  rw [lim_zero] at this
  rw [this]
  simp [okN_zero]
theorem prod_len {x y : Nat} (hx : okN x) (hy : okN y) : (lim (x * y)).length ≤ 128 := by
  refine len_le.2 ?_
  have := Nat.mul_lt_mul'' hx hy
  rw [← Nat.pow_add] at this
  exact this
theorem rmul {x y : Nat} (hx : okN x) (hy : okN y) : Ev (fun k => samphireref02_Mul.f k (lim x) (lim y)) (lim (x * y)) := rmul_ev x y (by have := len_le.2 hx; omega) (by have := len_le.2 hy; omega)
theorem rfcmp_ev {a b c d : Nat} (ha : okN a) (hb : okN b) (hc : okN c) (hd : okN d) : Ev (fun f => samphireref03_Cmp.f f (lim a) (lim b) (lim c) (lim d)) (cmpA (a * d) (c * b)) := by
  unfold samphireref03_Cmp.f cmpA
  refine Ev.bind (rmul ha hd) ?_
  refine Ev.bind (rmul hc hb) ?_
  rw [big_eq0]
  simp only [ob]
  have l1 := prod_len ha hd
  have l2 := prod_len hc hb
  by_cases o : okN (a * d) ∧ okN (c * b)
  · simp only [o, and_self, not_true_eq_false, decide_false, Bool.false_eq_true, if_false, if_true]
    exact Ev.bind (rcmp_ev _ _ (by omega) (by omega)) (Ev.now _)
  · simp only [o, not_false_eq_true, decide_true, if_true, if_false]
    exact Ev.now _
theorem do1 {a b c d : Nat} (ha : okN a) (hb : okN b) (hc : okN c) (hd : okN d) (h : Fr a b) (k : Fr c d) : Ev (fun f => samphireref03_Do.f f 1 (lim a) (lim b) (lim c) (lim d)) (sumA a b c d) := by
  unfold samphireref03_Do.f sumA
  simp only [if_neg (show ¬ ((1 : Int) = 3) by decide), if_neg (show ¬ ((1 : Int) = 4) by decide), if_neg (show ¬ ((1 : Int) = 2) by decide)]
  refine Ev.bind (rmul ha hd) ?_
  refine Ev.bind (rmul hc hb) ?_
  refine Ev.bind (rmul hb hd) ?_
  rw [big_eq]
  simp only [ob]
  have l1 := prod_len ha hd
  have l2 := prod_len hc hb
  by_cases o : okN (a * d) ∧ okN (c * b) ∧ okN (b * d)
  · simp only [o, and_self, not_true_eq_false, decide_false, Bool.false_eq_true, if_false, if_true]
    refine Ev.bind (radd_ev _ _ (by omega) (by omega)) ?_
    by_cases o2 : okN (a * d + c * b)
    · simp only [if_neg (show ¬ (64 < ((lim (a * d + c * b)).length : Int)) from fun c => (lenI_big _).1 c o2), if_pos o2]
      exact Ev.bind (rreduce_ev _ _ o2 o.2.2 (Nat.mul_pos h.1 k.1)) (Ev.now _)
    · simp only [if_pos ((lenI_big _).2 o2), if_neg o2]
      exact Ev.now _
  · simp only [o, not_false_eq_true, decide_true, if_true, if_false]
    exact Ev.now _
theorem do2 {a b c d : Nat} (ha : okN a) (hb : okN b) (hc : okN c) (hd : okN d) (h : Fr a b) (k : Fr c d) : Ev (fun f => samphireref03_Do.f f 2 (lim a) (lim b) (lim c) (lim d)) (subA a b c d) := by
  unfold samphireref03_Do.f subA
  simp only [if_neg (show ¬ ((2 : Int) = 3) by decide), if_neg (show ¬ ((2 : Int) = 4) by decide), if_true]
  refine Ev.bind (rmul ha hd) ?_
  refine Ev.bind (rmul hc hb) ?_
  refine Ev.bind (rmul hb hd) ?_
  rw [big_eq]
  simp only [ob]
  have l1 := prod_len ha hd
  have l2 := prod_len hc hb
  by_cases o : okN (a * d) ∧ okN (c * b) ∧ okN (b * d)
  · simp only [o, and_self, not_true_eq_false, decide_false, Bool.false_eq_true, if_false, if_true]
    refine Ev.bind (rcmp_ev _ _ (by omega) (by omega)) ?_
    by_cases o2 : a * d < c * b
    · simp only [if_pos (show cmpI (a * d) (c * b) < 0 by unfold cmpI; rw [if_pos o2]; decide), if_pos o2]
      exact Ev.now _
    · simp only [if_neg (show ¬ (cmpI (a * d) (c * b) < 0) by unfold cmpI; rw [if_neg o2]; split <;> decide), if_neg o2]
      refine Ev.bind (rsub_ev _ _ (by omega) (by omega)) ?_
      exact Ev.bind (rreduce_ev _ _ (Nat.lt_of_le_of_lt (Nat.sub_le _ _) o.1) o.2.2 (Nat.mul_pos h.1 k.1)) (Ev.now _)
  · simp only [o, not_false_eq_true, decide_true, if_true, if_false]
    exact Ev.now _
theorem do3 {a b c d : Nat} (ha : okN a) (hb : okN b) (hc : okN c) (hd : okN d) (h : Fr a b) (k : Fr c d) : Ev (fun f => samphireref03_Do.f f 3 (lim a) (lim b) (lim c) (lim d)) (mulA a b c d) := by
  unfold samphireref03_Do.f mulA
  simp only [if_true]
  refine Ev.bind (rmul ha hc) ?_
  refine Ev.bind (rmul hb hd) ?_
  rw [big_eq0]
  simp only [ob]
  by_cases o : okN (a * c) ∧ okN (b * d)
  · simp only [o, and_self, not_true_eq_false, decide_false, Bool.false_eq_true, if_false, if_true]
    exact Ev.bind (rreduce_ev _ _ o.1 o.2 (Nat.mul_pos h.1 k.1)) (Ev.now _)
  · simp only [o, not_false_eq_true, decide_true, if_true, if_false]
    exact Ev.now _
theorem do4 {a b c d : Nat} (ha : okN a) (hb : okN b) (hc : okN c) (hd : okN d) (h : Fr a b) (k : Fr c d) : Ev (fun f => samphireref03_Do.f f 4 (lim a) (lim b) (lim c) (lim d)) (divA a b c d) := by
  unfold samphireref03_Do.f divA
  simp only [if_neg (show ¬ ((4 : Int) = 3) by decide), if_true]
  refine Ev.bind (rmul ha hd) ?_
  refine Ev.bind (rmul hc hb) ?_
  by_cases e : c = 0
  · simp only [if_pos ((lenI_zero c).2 e), if_pos e]
    exact Ev.now _
  · simp only [if_neg (show ¬ (((lim c).length : Int) = 0) from fun h => e ((lenI_zero c).1 h)), if_neg e]
    rw [big_eq0]
    simp only [ob]
    by_cases o : okN (a * d) ∧ okN (c * b)
    · simp only [o, and_self, not_true_eq_false, decide_false, Bool.false_eq_true, if_false, if_true]
      exact Ev.bind (rreduce_ev _ _ o.1 o.2 (Nat.mul_pos (by omega) h.1)) (Ev.now _)
    · simp only [o, not_false_eq_true, decide_true, if_true, if_false]
      exact Ev.now _
end Go.Proofs.YtecbbenfcepohaaDoor.F
