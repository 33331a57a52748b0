/- The texts of fractions, the program's and the document's. No condition but the bounds told. -/
import Derived.Test.YtecbbenfcepohaaDoorS2
namespace Go.Proofs.YtecbbenfcepohaaDoor.F
set_option linter.unusedSimpArgs false
set_option linter.unusedVariables false
open Go.RowKit Go.Proofs.YtecbbenfcepohaaDoor.K Go.Proofs.YtecbbenfcepohaaDoor.V Go.Proofs.YtecbbenfcepohaaDoorW.PrintWords Go.Proofs.YtecbbenfcepohaaDoorW.PrintLast Go.Proofs.YtecbbenfcepohaaDoorW.PrintMore Go.Proofs.YtecbbenfcepohaaDoor.M Go.Proofs.YtecbbenfcepohaaDoor.Q Go.Proofs.YtecbbenfcepohaaDoor.R
theorem dec_short : ∀ (n x : Nat), x < 10 ^ (n + 1) → (dec x).length ≤ n + 1 := by
  intro n
  induction n with
  | zero =>
    intro x h
    rw [dec, dif_pos (by omega)]
    simp
  | succ n ih =>
    intro x h
    rw [dec]
    split
    · simp
    · rw [List.length_append, List.length_singleton]
      have := ih (x / 10) (by rw [Nat.pow_succ] at h; omega)
      omega
theorem dec_640 {x : Nat} (h : okN x) : (dec x).length ≤ 640 := dec_short 639 x (Nat.lt_of_lt_of_le h (by decide +kernel))
def textA (a b : Nat) : ByteArray := (⟨(dec a).toArray⟩ : ByteArray) ++ (⟨#[47]⟩ : ByteArray) ++ (⟨(dec b).toArray⟩ : ByteArray)
theorem ftext_ev {a b : Nat} (ha : okN a) (hb : okN b) (h : Fr a b) : Ev (fun k => rat_Text.f k (lim a) (lim b)) (textA a b) := by
  have s1 := dec_640 ha
  have s2 := dec_640 hb
  have R := right_ev' a b ha hb
  rw [decide_eq_true h] at R
  unfold rat_Text.f textA
  refine Ev.bind R ?_
  simp only [if_true]
  refine Ev.bind (text_dec a ha) ?_
  simp only [size_mk, if_pos (show (dec a).length + 1 ≤ 9223372036854775807 by omega)]
  refine Ev.bind (text_dec b hb) ?_
  simp only [size_mk, if_pos (show (dec a).length + 1 + (dec b).length ≤ 9223372036854775807 by omega)]
  exact Ev.now _
theorem ftext_no {a b : List Int} (ha : W a) (hb : W b) (la : a.length < 9223372036854775808) (lb : b.length < 9223372036854775808) (h : frB a b = false) : Ev (fun k => rat_Text.f k a b) (⟨#[]⟩ : ByteArray) := by
  have R := fright_ev a b ha hb la lb
  rw [h] at R
  unfold rat_Text.f
  refine Ev.bind R ?_
  simp only [Bool.false_eq_true, if_false]
  exact Ev.now _
theorem rftext_ev {a b : Nat} (ha : okN a) (hb : okN b) : Ev (fun k => samphireref03_Text.f k (lim a) (lim b)) (textA a b) := by
  have s1 := dec_640 ha
  have s2 := dec_640 hb
  unfold samphireref03_Text.f textA
  refine Ev.bind (rtext_ev a ha) ?_
  simp only [size_mk, if_pos (show (dec a).length + 1 ≤ 9223372036854775807 by omega)]
  refine Ev.bind (rtext_ev b hb) ?_
  simp only [size_mk, if_pos (show (dec a).length + 1 + (dec b).length ≤ 9223372036854775807 by omega)]
  exact Ev.now _
theorem frright_ev (a b : List Int) (ha : W a) (hb : W b) (la : a.length ≤ 70) (lb : b.length ≤ 70) : Ev (fun k => samphireref03_Right.f k a b) (frB a b) := by
  unfold samphireref03_Right.f
  rw [rright_eq a ha (by omega), rright_eq b hb (by omega)]
  cases r1 : rightB a with
  | false =>
    rw [show frB a b = false by unfold frB; rw [r1]; rfl]
    simp only [ob, Bool.false_eq_true, if_false]
    exact Ev.now _
  | true =>
    cases r2 : rightB b with
    | false =>
      rw [show frB a b = false by unfold frB; rw [r1, r2]; rfl]
      simp only [ob, if_true, Bool.false_eq_true, if_false]
      exact Ev.now _
    | true =>
      obtain ⟨x, rfl, hx⟩ := right_nat ha r1
      obtain ⟨y, rfl, hy⟩ := right_nat hb r2
      rw [frB_lim x y hx hy]
      simp only [ob, if_true]
      by_cases c : y = 0
      · simp only [if_pos ((lenI_zero y).2 c)]
        rw [show decide (Fr x y) = false from decide_eq_false (fun h => by have := h.1; omega)]
        exact Ev.now _
      · simp only [if_neg (show ¬ (((lim y).length : Int) = 0) from fun h => c ((lenI_zero y).1 h))]
        refine Ev.bind (rgcd_ev x y (by omega) (by omega)) ?_
        have g0 := gcd_pos (n := x) (d := y) (by omega)
        generalize hg : Nat.gcd x y = g at g0
        by_cases c1 : (((lim g).length : Int)) = 1
        · simp only [if_pos c1, if_pos (show 0 < (((lim g).length : Int)) by omega)]
          have e : (rd (lim g) 0 == 1) = decide (Fr x y) := by
            have hl : lim g = [((g % 4294967296 : Nat) : Int)] := by
              rw [lim_pos (by omega)] at c1 ⊢
              have : (lim (g / 4294967296)).length = 0 := by rw [List.length_cons] at c1; omega
              rw [List.eq_nil_of_length_eq_zero this]
            have hs : g < 4294967296 ^ 1 := len_le.1 (by omega)
            have hm : g % 4294967296 = g := Nat.mod_eq_of_lt (by omega)
            rw [hl, hm]
            show (((g : Int)) == 1) = _
            by_cases e1 : g = 1
            · rw [decide_eq_true (show Fr x y from ⟨by omega, by rw [hg]; exact e1⟩), e1]; rfl
            · rw [decide_eq_false (fun h : Fr x y => e1 (by rw [← hg]; exact h.2))]
              exact beq_eq_false_iff_ne.2 (by omega)
          rw [← e]
          exact Ev.now _
        · simp only [if_neg c1]
          rw [show decide (Fr x y) = false from decide_eq_false (fun h => c1 (by have := h.2; rw [hg] at this; rw [this, lim_one]; rfl))]
          exact Ev.now _
end Go.Proofs.YtecbbenfcepohaaDoor.F
