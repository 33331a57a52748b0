/- The document's answer: Gcd, in numbers. No condition beyond the lists' lengths. -/
import Derived.Test.YtdgbeejhccogpaaDoorR5
namespace Go.Proofs.YtdgbeejhccogpaaDoor.R
set_option linter.unusedSimpArgs false
set_option linter.unusedVariables false
open Go.RowKit Go.Proofs.YtdgbeejhccogpaaDoor.P Go.Proofs.YtdgbeejhccogpaaDoorW.PrintWords Go.Proofs.YtdgbeejhccogpaaDoorW.PrintLast Go.Proofs.YtdgbeejhccogpaaDoorW.PrintMore Go.Proofs.YtdgbeejhccogpaaDoor.M Go.Proofs.YtdgbeejhccogpaaDoor.F

theorem two_odd {y : Nat} (h : y % 2 = 1) : Nat.gcd 2 y = 1 := by rw [Nat.gcd_rec, h, Nat.gcd_one_left]
theorem gcd_half {x y : Nat} (hx : x % 2 = 0) (h : Nat.gcd x y % 2 = 1) : Nat.gcd (x / 2) y = Nat.gcd x y := by
  have hy : y % 2 = 1 := by
    rcases Nat.mod_two_eq_zero_or_one y with c | c
    · have := Nat.dvd_gcd (Nat.dvd_of_mod_eq_zero hx) (Nat.dvd_of_mod_eq_zero c)
      omega
    · exact c
  have e : 2 * (x / 2) = x := by omega
  have := Nat.Coprime.gcd_mul_left_cancel (k := 2) (n := y) (x / 2) (two_odd hy)
  rw [e] at this
  exact this.symm
theorem gcd_half' {x y : Nat} (hy : y % 2 = 0) (h : Nat.gcd x y % 2 = 1) : Nat.gcd x (y / 2) = Nat.gcd x y := by
  rw [Nat.gcd_comm x, Nat.gcd_comm x] at *
  exact gcd_half hy h
theorem len_pos {x : Nat} (h : 0 < x) : ((lim x).length : Int) > 0 := by
  have : (lim x).length ≠ 0 := fun c => by have := (lim_len_zero x).1 c; omega
  omega
theorem rgcd_loops (t : Nat) (ht : t ≤ 5000) (n : Nat) : ∀ x y : Nat, x + y ≤ n → 0 < y → Nat.gcd x y % 2 = 1 → (lim x).length ≤ 100 → (lim y).length ≤ 100 →
    (0 < x → Ev (fun k => samphireref02_Gcd.l3 k (lim x) (lim y) (t : Int)) (lim (2 ^ t * Nat.gcd x y))) ∧
    (0 < x → Ev (fun k => samphireref02_Gcd.l2 k (lim x) (lim y) (t : Int)) (lim (2 ^ t * Nat.gcd x y))) ∧
    Ev (fun k => samphireref02_Gcd.l1 k (lim x) (lim y) (t : Int)) (lim (2 ^ t * Nat.gcd x y)) := by
  induction n with
  | zero => intro x y h hy; omega
  | succ n ih =>
    intro x y h hy hg lx ly
    have A : 0 < x → Ev (fun k => samphireref02_Gcd.l3 k (lim x) (lim y) (t : Int)) (lim (2 ^ t * Nat.gcd x y)) := by
      intro hx
      refine Ev.step (fun k => samphireref02_Gcd.l3.eq_2 _ _ _ k) ?_
      rw [even_eq y]
      simp only [ob]
      by_cases c : y % 2 = 0
      · rw [decide_eq_true c]
        simp only [if_true]
        refine Ev.bind (half_ev' y (by omega)) ?_
        have e := gcd_half' c hg
        have l2 := len_mono (show y / 2 ≤ y by omega)
        have := (ih x (y / 2) (by omega) (by omega) (by rw [e]; exact hg) lx (by omega)).1 hx
        rw [e] at this
        exact this
      · rw [decide_eq_false c]
        simp only [Bool.false_eq_true, if_false]
        refine Ev.bind (rcmp_ev x y (by omega) (by omega)) ?_
        by_cases d : x < y
        · have hc : cmpI x y < 0 := by unfold cmpI; rw [if_pos d]; omega
          simp only [if_pos hc]
          refine Ev.bind (rsub_ev y x (by omega) (by omega)) ?_
          have e : Nat.gcd (y - x) x = Nat.gcd x y := by rw [Nat.gcd_sub_self_left (by omega), Nat.gcd_comm]
          have l2 := len_mono (show y - x ≤ y by omega)
          have := (ih (y - x) x (by omega) hx (by rw [e]; exact hg) (by omega) lx).2.2
          rw [e] at this
          exact this
        · have hc : ¬ cmpI x y < 0 := by unfold cmpI; rw [if_neg d]; split <;> omega
          simp only [if_neg hc]
          refine Ev.bind (rsub_ev x y (by omega) (by omega)) ?_
          have e : Nat.gcd (x - y) y = Nat.gcd x y := Nat.gcd_sub_self_left (by omega)
          have l2 := len_mono (show x - y ≤ x by omega)
          have := (ih (x - y) y (by omega) hy (by rw [e]; exact hg) (by omega) ly).2.2
          rw [e] at this
          exact this
    have B : 0 < x → Ev (fun k => samphireref02_Gcd.l2 k (lim x) (lim y) (t : Int)) (lim (2 ^ t * Nat.gcd x y)) := by
      intro hx
      refine Ev.step (fun k => samphireref02_Gcd.l2.eq_2 _ _ _ k) ?_
      rw [even_eq x]
      simp only [ob]
      by_cases c : x % 2 = 0
      · rw [decide_eq_true c]
        simp only [if_true, if_pos (len_pos hx)]
        refine Ev.bind (half_ev' x (by omega)) ?_
        have e := gcd_half c hg
        have l2 := len_mono (show x / 2 ≤ x by omega)
        have := (ih (x / 2) y (by omega) hy (by rw [e]; exact hg) (by omega) ly).2.1 (by omega)
        rw [e] at this
        exact this
      · rw [decide_eq_false c]
        simp only [Bool.false_eq_true, if_false]
        exact Ev.step (fun k => samphireref02_Gcd.j4.eq_2 _ _ _ k) (A hx)
    refine ⟨A, B, ?_⟩
    refine Ev.step (fun k => samphireref02_Gcd.l1.eq_2 _ _ _ k) ?_
    rcases Nat.eq_zero_or_pos x with c | c
    · subst c
      simp only [lim_zero, List.length_nil, Int.natCast_zero, gt_iff_lt, Int.lt_irrefl, if_false, Nat.gcd_zero_left]
      exact rgcd_l4 t y (by omega)
    · simp only [if_pos (len_pos c)]
      exact B c
theorem rgcd_l0 (n : Nat) : ∀ x y t : Nat, x ≤ n → 0 < x → 0 < y → t + bl x ≤ 5000 → (lim x).length ≤ 100 → (lim y).length ≤ 100 → Ev (fun k => samphireref02_Gcd.l0 k (lim x) (lim y) (t : Int)) (lim (2 ^ t * Nat.gcd x y)) := by
  induction n with
  | zero => intro x y t h hx; omega
  | succ n ih =>
    intro x y t h hx hy ht lx ly
    have odd : Nat.gcd x y % 2 = 1 → Ev (fun k => samphireref02_Gcd.j1 k (lim x) (lim y) (t : Int) false) (lim (2 ^ t * Nat.gcd x y)) := fun hg => by
      refine Ev.step (fun k => samphireref02_Gcd.j1.eq_2 _ _ _ _ k) ?_
      simp only [Bool.false_eq_true, if_false]
      exact (rgcd_loops t (by omega) (x + y) x y (Nat.le_refl _) hy hg lx ly).2.2
    have w : wrap64 ((t : Int) + 1) = ((t + 1 : Nat) : Int) := w_succ (by omega)
    refine Ev.step (fun k => samphireref02_Gcd.l0.eq_2 _ _ _ k) ?_
    rw [even_eq x]
    simp only [ob]
    by_cases c : x % 2 = 0
    · rw [decide_eq_true c, even_eq y]
      simp only [if_true, ob]
      by_cases d : y % 2 = 0
      · rw [decide_eq_true d]
        refine Ev.step (fun k => samphireref02_Gcd.j1.eq_2 _ _ _ _ k) ?_
        simp only [if_true, w]
        refine Ev.bind (half_ev' x (by clear w; omega)) ?_
        refine Ev.bind (half_ev' y (by clear w; omega)) ?_
        have l1 := len_mono (show x / 2 ≤ x by clear w; omega)
        have l2 := len_mono (show y / 2 ≤ y by clear w; omega)
        have b := bl_pos (show x ≠ 0 by clear w; omega)
        have L := ih (x / 2) (y / 2) (t + 1) (by clear w; omega) (by clear w; omega) (by clear w; omega) (by clear w; omega) (by clear w; omega) (by clear w; omega)
        have e : 2 ^ (t + 1) * Nat.gcd (x / 2) (y / 2) = 2 ^ t * Nat.gcd x y := by
          rw [Nat.pow_succ, Nat.mul_assoc, ← Nat.gcd_mul_left, show 2 * (x / 2) = x from by clear w; omega, show 2 * (y / 2) = y from by clear w; omega]
        rw [e] at L
        exact L
      · rw [decide_eq_false d]
        refine odd ?_
        have := Nat.mod_two_eq_zero_or_one (Nat.gcd x y)
        rcases this with g | g
        · have := Nat.dvd_trans (Nat.dvd_of_mod_eq_zero g) (Nat.gcd_dvd_right x y)
          clear w; omega
        · exact g
    · rw [decide_eq_false c]
      simp only [Bool.false_eq_true, if_false]
      refine odd ?_
      have := Nat.mod_two_eq_zero_or_one (Nat.gcd x y)
      rcases this with g | g
      · have := Nat.dvd_trans (Nat.dvd_of_mod_eq_zero g) (Nat.gcd_dvd_left x y)
        clear w; omega
      · exact g
theorem rgcd_ev (x y : Nat) (lx : (lim x).length ≤ 100) (ly : (lim y).length ≤ 100) : Ev (fun k => samphireref02_Gcd.f k (lim x) (lim y)) (lim (Nat.gcd x y)) := by
  unfold samphireref02_Gcd.f
  rcases Nat.eq_zero_or_pos x with c | c
  · subst c
    simp only [lim_zero, List.length_nil, Int.natCast_zero, if_true, Nat.gcd_zero_left]
    exact Ev.now _
  · have := len_pos c
    simp only [if_neg (show ¬ ((lim x).length : Int) = 0 by omega)]
    rcases Nat.eq_zero_or_pos y with d | d
    · subst d
      simp only [lim_zero, List.length_nil, Int.natCast_zero, if_true, Nat.gcd_zero_right]
      exact Ev.now _
    · have := len_pos d
      simp only [if_neg (show ¬ ((lim y).length : Int) = 0 by omega)]
      have hB : bl x ≤ 32 * (lim x).length := bl_le (by rw [← pow32]; exact len_le.1 (Nat.le_refl _))
      have L := rgcd_l0 x x y 0 (Nat.le_refl _) c d (by omega) lx ly
      rw [Nat.pow_zero, Nat.one_mul] at L
      exact L
end Go.Proofs.YtdgbeejhccogpaaDoor.R
