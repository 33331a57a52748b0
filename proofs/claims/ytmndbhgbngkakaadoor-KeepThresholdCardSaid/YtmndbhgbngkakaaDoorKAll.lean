/- Several texts of one claim in one file: YtmndbhgbngkakaaDoorKM, YtmndbhgbngkakaaDoorKC, YtmndbhgbngkakaaDoorKF1, YtmndbhgbngkakaaDoorKF2, YtmndbhgbngkakaaDoorKF3, YtmndbhgbngkakaaDoorKR1, YtmndbhgbngkakaaDoorKR2, YtmndbhgbngkakaaDoorKR3, YtmndbhgbngkakaaDoorKB1, YtmndbhgbngkakaaDoorKD1, YtmndbhgbngkakaaDoorKD2, YtmndbhgbngkakaaDoorKD3, YtmndbhgbngkakaaDoorKD4, YtmndbhgbngkakaaDoorKD5, YtmndbhgbngkakaaDoorKD6, YtmndbhgbngkakaaDoorKR4, YtmndbhgbngkakaaDoorKR5, YtmndbhgbngkakaaDoorKR6, YtmndbhgbngkakaaDoorKT1, YtmndbhgbngkakaaDoorKT2, YtmndbhgbngkakaaDoorKT3, YtmndbhgbngkakaaDoorKT4, YtmndbhgbngkakaaDoorKT5, YtmndbhgbngkakaaDoorKT6, YtmndbhgbngkakaaDoorQ0, YtmndbhgbngkakaaDoorQ1. No condition. -/
import Derived.Laws.BitsLemmas
import Derived.Laws.Bits64
import Derived.RowKit
import Derived.Test.YtmndbhgbngkakaaDoorKx0
import Derived.Laws.Strings
import Derived.KernelRfl
section
/- Plain lemmas on limbs (lists of numbers below 2^32): their value, the limbs of a number, what trimming does. No condition. -/
namespace Go.Proofs.YtmndbhgbngkakaaDoor.M
open Go.RowKit

/-- The value of limbs, the lowest first. -/
def val : List Int → Int
  | [] => 0
  | x :: t => x + 4294967296 * val t
/-- Limbs of 32 bits. -/
def W (l : List Int) : Prop := ∀ x ∈ l, 0 ≤ x ∧ x < 4294967296
/-- The limbs of a number. -/
def lim (n : Nat) : List Int := if n = 0 then [] else ((n % 4294967296 : Nat) : Int) :: lim (n / 4294967296)
termination_by n
decreasing_by omega

theorem W.nil : W [] := fun _ h => by cases h
theorem W.cons {x : Int} {t : List Int} (h0 : 0 ≤ x) (h1 : x < 4294967296) (h : W t) : W (x :: t) := fun y hy => by
  rcases List.mem_cons.1 hy with rfl | hy
  · exact ⟨h0, h1⟩
  · exact h y hy
theorem W.head {x : Int} {t : List Int} (h : W (x :: t)) : 0 ≤ x ∧ x < 4294967296 := h x List.mem_cons_self
theorem W.tail {x : Int} {t : List Int} (h : W (x :: t)) : W t := fun y hy => h y (List.mem_cons_of_mem _ hy)
theorem W.append {a b : List Int} (ha : W a) (hb : W b) : W (a ++ b) := fun y hy => by
  rcases List.mem_append.1 hy with h | h
  · exact ha y h
  · exact hb y h
theorem W.take {a : List Int} (ha : W a) (n : Nat) : W (a.take n) := fun y hy => ha y (List.mem_of_mem_take hy)
theorem W.drop {a : List Int} (ha : W a) (n : Nat) : W (a.drop n) := fun y hy => ha y (List.mem_of_mem_drop hy)
theorem W.left {a b : List Int} (h : W (a ++ b)) : W a := fun y hy => h y (List.mem_append_left _ hy)
theorem W.right {a b : List Int} (h : W (a ++ b)) : W b := fun y hy => h y (List.mem_append_right _ hy)
theorem W.replicate (n : Nat) : W (List.replicate n 0) := fun y hy => by
  have := List.eq_of_mem_replicate hy
  omega
theorem W.set {a : List Int} (ha : W a) (i : Nat) {v : Int} (h0 : 0 ≤ v) (h1 : v < 4294967296) : W (a.set i v) := fun y hy => by
  rcases List.mem_or_eq_of_mem_set hy with h | rfl
  · exact ha y h
  · exact ⟨h0, h1⟩
theorem W.getD {a : List Int} (ha : W a) (i : Nat) : 0 ≤ a.getD i 0 ∧ a.getD i 0 < 4294967296 := by
  by_cases h : i < a.length
  · have := ha _ (List.getElem_mem h)
    simp [List.getD, h]
    exact this
  · simp [List.getD, List.getElem?_eq_none (Nat.le_of_not_lt h)]

theorem val_nonneg {l : List Int} (h : W l) : 0 ≤ val l := by
  induction l with
  | nil => exact Int.le_refl 0
  | cons x t ih =>
    have h1 := h.head
    have h2 := ih h.tail
    simp only [val]
    omega
theorem val_replicate (n : Nat) : val (List.replicate n 0) = 0 := by
  induction n with
  | zero => rfl
  | succ n ih => simp only [List.replicate_succ, val, ih]; omega
theorem val_append (a b : List Int) : val (a ++ b) = val a + 4294967296 ^ a.length * val b := by
  induction a with
  | nil => simp [val]
  | cons x t ih =>
    simp only [List.cons_append, val, ih, List.length_cons]
    rw [Int.mul_add, ← Int.mul_assoc, show (4294967296 : Int) ^ (t.length + 1) = 4294967296 * 4294967296 ^ t.length from by rw [Int.pow_succ, Int.mul_comm]]
    omega
theorem pow_pos (n : Nat) : (0 : Int) < 4294967296 ^ n := Int.pow_pos (by decide)
theorem pow_succ (n : Nat) : (4294967296 : Int) ^ (n + 1) = 4294967296 * 4294967296 ^ n := by rw [Int.pow_succ, Int.mul_comm]
theorem val_lt {l : List Int} (h : W l) : val l < 4294967296 ^ l.length := by
  induction l with
  | nil => simp [val]
  | cons x t ih =>
    have h1 := h.head
    have h2 := ih h.tail
    simp only [val, List.length_cons, pow_succ]
    omega

theorem pow_cast (n : Nat) : ((4294967296 ^ n : Nat) : Int) = 4294967296 ^ n := by rw [Int.natCast_pow]; rfl
theorem lt_pow {x n : Nat} (h : x < 4294967296 ^ n) : (x : Int) < 4294967296 ^ n := by rw [← pow_cast]; exact Int.ofNat_lt.2 h
theorem lim_zero : lim 0 = [] := by rw [lim]; rfl
theorem lim_pos {n : Nat} (h : n ≠ 0) : lim n = ((n % 4294967296 : Nat) : Int) :: lim (n / 4294967296) := by rw [lim, if_neg h]
theorem W_lim (n : Nat) : W (lim n) := by
  induction n using Nat.strongRecOn with
  | _ n ih =>
    by_cases h : n = 0
    · subst h; rw [lim_zero]; exact W.nil
    · rw [lim_pos h]
      exact W.cons (by omega) (by omega) (ih _ (by omega))
theorem val_lim (n : Nat) : val (lim n) = n := by
  induction n using Nat.strongRecOn with
  | _ n ih =>
    by_cases h : n = 0
    · subst h; rw [lim_zero]; rfl
    · rw [lim_pos h, val, ih _ (by omega)]
      omega
theorem lim_eq_nil {n : Nat} : lim n = [] ↔ n = 0 := by
  constructor
  · intro h
    by_cases h0 : n = 0
    · exact h0
    · rw [lim_pos h0] at h; cases h
  · rintro rfl; exact lim_zero

/-- Without the noughts at the end. -/
def trimL : List Int → List Int
  | [] => []
  | x :: t => if trimL t = [] ∧ x = 0 then [] else x :: trimL t
theorem trimL_lim {l : List Int} (h : W l) : trimL l = lim (val l).toNat := by
  induction l with
  | nil => simp [trimL, val, lim_zero]
  | cons x t ih =>
    have h1 := h.head
    have h2 := ih h.tail
    have h3 := val_nonneg h.tail
    rw [trimL, h2]
    simp only [lim_eq_nil, val]
    by_cases c : (val t).toNat = 0 ∧ x = 0
    · rw [if_pos c]
      obtain ⟨c1, c2⟩ := c
      rw [show (x + 4294967296 * val t).toNat = 0 from by omega, lim_zero]
    · rw [if_neg c]
      have hne : (x + 4294967296 * val t).toNat ≠ 0 := by omega
      rw [lim_pos hne]
      congr 1
      · omega
      · congr 1
        omega
theorem trimL_snoc (t : List Int) : trimL (t ++ [0]) = trimL t := by
  induction t with
  | nil => simp [trimL]
  | cons x t ih => simp only [List.cons_append, trimL, ih]
theorem trimL_snoc_ne (t : List Int) {x : Int} (hx : x ≠ 0) : trimL (t ++ [x]) = t ++ [x] := by
  induction t with
  | nil => simp [trimL, hx]
  | cons y t ih =>
    simp only [List.cons_append, trimL, ih]
    rw [if_neg]
    intro h
    simp at h
/-- The last limb isn't 0. -/
def Cano (l : List Int) : Prop := l = [] ∨ ∃ t x, l = t ++ [x] ∧ x ≠ 0
theorem can_trim {l : List Int} (h : Cano l) : trimL l = l := by
  rcases h with rfl | ⟨t, x, rfl, hx⟩
  · rfl
  · exact trimL_snoc_ne t hx
theorem can_lim {l : List Int} (hw : W l) (h : Cano l) : l = lim (val l).toNat := by
  have := trimL_lim hw
  rw [can_trim h] at this
  exact this
theorem snoc_of {l : List Int} (h : 0 < l.length) : ∃ t x, l = t ++ [x] ∧ l.getD (l.length - 1) 0 = x ∧ t.length = l.length - 1 := by
  refine ⟨l.take (l.length - 1), l.getD (l.length - 1) 0, ?_, rfl, by rw [List.length_take]; omega⟩
  have e : l.take (l.length - 1 + 1) = l.take (l.length - 1) ++ [l[l.length - 1]'(by omega)] := List.take_succ_eq_append_getElem (by omega)
  rw [show l.length - 1 + 1 = l.length from by omega, List.take_length] at e
  simp only [List.getD, List.getElem?_eq_getElem (show l.length - 1 < l.length from by omega), Option.getD_some]
  exact e
theorem can_of {l : List Int} (h : 0 < l.length → l.getD (l.length - 1) 0 ≠ 0) : Cano l := by
  by_cases hl : 0 < l.length
  · obtain ⟨t, x, e, hx, _⟩ := snoc_of hl
    exact .inr ⟨t, x, e, hx ▸ h hl⟩
  · exact .inl (List.eq_nil_of_length_eq_zero (by omega))
theorem lim_can (n : Nat) : Cano (lim n) := by
  induction n using Nat.strongRecOn with
  | _ n ih =>
    by_cases h : n = 0
    · subst h; rw [lim_zero]; exact .inl rfl
    · rw [lim_pos h]
      by_cases h2 : n / 4294967296 = 0
      · rw [h2, lim_zero]
        exact .inr ⟨[], _, rfl, by omega⟩
      · rcases ih _ (show n / 4294967296 < n by omega) with e | ⟨t, x, e, hx⟩
        · exact absurd (lim_eq_nil.1 e) h2
        · rw [e]
          exact .inr ⟨_ :: t, x, rfl, hx⟩
theorem last_ne {l : List Int} (h : Cano l) (hl : 0 < l.length) : l.getD (l.length - 1) 0 ≠ 0 := by
  rcases h with rfl | ⟨t, x, rfl, hx⟩
  · simp at hl
  · simp [List.getD, hx]
theorem len_le {n m : Nat} : (lim n).length ≤ m ↔ n < 4294967296 ^ m := by
  induction m generalizing n with
  | zero =>
    by_cases h : n = 0
    · subst h; simp [lim_zero]
    · rw [lim_pos h]; simp; omega
  | succ m ih =>
    by_cases h : n = 0
    · subst h; simp [lim_zero, Nat.pow_pos]
    · rw [lim_pos h, List.length_cons, Nat.pow_succ]
      have := ih (n := n / 4294967296)
      rw [Nat.div_lt_iff_lt_mul (by decide)] at this
      omega
theorem len_lt {n m : Nat} : m < (lim n).length ↔ 4294967296 ^ m ≤ n := by
  have := len_le (n := n) (m := m)
  omega
theorem len_mono {m n : Nat} (h : m ≤ n) : (lim m).length ≤ (lim n).length := len_le.2 (Nat.lt_of_le_of_lt h (len_le.1 (Nat.le_refl _)))
theorem lt_of_len {m n : Nat} (h : (lim m).length < (lim n).length) : m < n := by
  rcases Nat.lt_or_ge m n with h' | h'
  · exact h'
  · have := len_mono h'; omega

/-! ### small arithmetic of the printed text -/
theorem wrap64_in {n : Int} (h0 : -9223372036854775808 ≤ n) (h1 : n < 9223372036854775808) : wrap64 n = n := by unfold wrap64; omega
theorem u64_in {n : Int} (h0 : 0 ≤ n) (h1 : n < 18446744073709551616) : IntKind.u64.wrap n = n := by rw [IntKind.wrap_u64]; omega
theorem tdiv_pos {a b : Int} (h : 0 ≤ a) : Int.tdiv a b = a / b := Int.tdiv_eq_ediv_of_nonneg h
theorem tmod_pos {a b : Int} (h : 0 ≤ a) : Int.tmod a b = a % b := Int.tmod_eq_emod_of_nonneg h
theorem wraps_u64 (n : Int) (h₀ : 0 ≤ n) (h₁ : n < 2 ^ 64) : IntKind.u64.wrap n = n := by rw [IntKind.wrap_u64]; omega
theorem wraps_u32 (n : Int) (h₀ : 0 ≤ n) (h₁ : n < 2 ^ 32) : IntKind.u32.wrap n = n := by rw [IntKind.wrap_u32]; omega
end Go.Proofs.YtmndbhgbngkakaaDoor.M
end
section
/- Plain lemmas: digits with a carry, in any base: their value. No condition. -/
namespace Go.Proofs.YtmndbhgbngkakaaDoor.M
set_option linter.all false

/-- The value of digits of a base, the lowest first. -/
def vb (B : Int) : List Int → Int
  | [] => 0
  | x :: t => x + B * vb B t
theorem vb_val (l : List Int) : vb 4294967296 l = val l := by
  induction l with
  | nil => rfl
  | cons x t ih => simp only [vb, val, ih]
/-- Digits of a base. -/
def D (B : Int) (l : List Int) : Prop := ∀ x ∈ l, 0 ≤ x ∧ x < B
/-- Digits with a carry: of the sums s i, s (i+1), .., m of them; and the last carry. -/
def carr (B : Int) (s : Nat → Int) : Nat → Int → Nat → List Int × Int
  | 0, c, _ => ([], c)
  | m + 1, c, i => ((s i + c) % B :: (carr B s m ((s i + c) / B) (i + 1)).1, (carr B s m ((s i + c) / B) (i + 1)).2)
/-- The sums' value. -/
def vs (B : Int) (s : Nat → Int) : Nat → Nat → Int
  | 0, _ => 0
  | m + 1, i => s i + B * vs B s m (i + 1)
theorem carr_len (B : Int) (s : Nat → Int) (m : Nat) : ∀ c i, (carr B s m c i).1.length = m := by
  induction m with
  | zero => intro c i; rfl
  | succ m ih => intro c i; simp only [carr, List.length_cons, ih]
theorem carr_D {B : Int} (hB : 0 < B) (s : Nat → Int) (m : Nat) : ∀ c i, D B (carr B s m c i).1 := by
  induction m with
  | zero => intro c i x hx; cases hx
  | succ m ih =>
    intro c i x hx
    simp only [carr] at hx
    rcases List.mem_cons.1 hx with rfl | hx
    · exact ⟨Int.emod_nonneg _ (by omega), Int.emod_lt_of_pos _ hB⟩
    · exact ih _ _ x hx
theorem carr_val (B : Int) (s : Nat → Int) (m : Nat) : ∀ c i, vb B (carr B s m c i).1 + B ^ m * (carr B s m c i).2 = vs B s m i + c := by
  induction m with
  | zero => intro c i; simp [carr, vb, vs]
  | succ m ih =>
    intro c i
    have h := ih ((s i + c) / B) (i + 1)
    simp only [carr, vb, vs]
    have e : B ^ (m + 1) * (carr B s m ((s i + c) / B) (i + 1)).2 = B * (B ^ m * (carr B s m ((s i + c) / B) (i + 1)).2) := by rw [Int.pow_succ, Int.mul_comm (B ^ m) B, Int.mul_assoc]
    have d := Int.emod_add_mul_ediv (s i + c) B
    rw [e, Int.add_assoc, ← Int.mul_add, h, Int.mul_add]
    omega
theorem carr_congr (B : Int) {s s' : Nat → Int} (m : Nat) : ∀ c i, (∀ t, i ≤ t → s t = s' t) → carr B s m c i = carr B s' m c i := by
  induction m with
  | zero => intro c i h; rfl
  | succ m ih =>
    intro c i h
    simp only [carr]
    rw [h i (Nat.le_refl i), ih _ _ (fun t ht => h t (by omega))]
theorem vs_add (B : Int) (f g : Nat → Int) (m : Nat) : ∀ i, vs B (fun t => f t + g t) m i = vs B f m i + vs B g m i := by
  induction m with
  | zero => intro i; rfl
  | succ m ih => intro i; simp only [vs, ih, Int.mul_add]; omega
theorem vs_sub (B : Int) (f g : Nat → Int) (m : Nat) : ∀ i, vs B (fun t => f t - g t) m i = vs B f m i - vs B g m i := by
  induction m with
  | zero => intro i; rfl
  | succ m ih => intro i; simp only [vs, ih, Int.mul_sub]; omega
theorem vs_mul (B x : Int) (f : Nat → Int) (m : Nat) : ∀ i, vs B (fun t => x * f t) m i = x * vs B f m i := by
  induction m with
  | zero => intro i; simp [vs]
  | succ m ih => intro i; simp only [vs, ih, Int.mul_add]; rw [← Int.mul_assoc, ← Int.mul_assoc, Int.mul_comm B x]
/-- A list's digits, from a place on, in so many places. -/
theorem vs_list (B : Int) (l : List Int) (m : Nat) : ∀ i, l.length ≤ i + m → vs B (fun t => l.getD t 0) m i = vb B (l.drop i) := by
  induction m with
  | zero => intro i h; rw [List.drop_of_length_le (by omega)]; rfl
  | succ m ih =>
    intro i h
    simp only [vs]
    by_cases c : i < l.length
    · rw [ih (i + 1) (by omega), List.drop_eq_getElem_cons c]
      simp [vb, List.getD, c]
    · rw [ih (i + 1) (by omega), List.drop_of_length_le (by omega), List.drop_of_length_le (by omega)]
      simp [vb, List.getD, List.getElem?_eq_none (Nat.le_of_not_lt c)]
theorem vs_seg (B : Int) (l : List Int) (k m : Nat) : ∀ i, k + i + m ≤ l.length → vs B (fun t => l.getD (k + t) 0) m i = vb B ((l.drop (k + i)).take m) := by
  induction m with
  | zero => intro i h; simp [vs, vb]
  | succ m ih =>
    intro i h
    have c : k + i < l.length := by omega
    simp only [vs]
    rw [ih (i + 1) (by omega), List.drop_eq_getElem_cons c]
    simp [vb, List.getD, c, Nat.add_assoc]
theorem D.nil (B : Int) : D B [] := fun _ h => by cases h
theorem D.cons {B x : Int} {t : List Int} (h0 : 0 ≤ x) (h1 : x < B) (h : D B t) : D B (x :: t) := fun y hy => by
  rcases List.mem_cons.1 hy with rfl | hy
  · exact ⟨h0, h1⟩
  · exact h y hy
theorem D.append {B : Int} {a b : List Int} (ha : D B a) (hb : D B b) : D B (a ++ b) := fun y hy => by
  rcases List.mem_append.1 hy with h | h
  · exact ha y h
  · exact hb y h
theorem D.take {B : Int} {a : List Int} (ha : D B a) (n : Nat) : D B (a.take n) := fun y hy => ha y (List.mem_of_mem_take hy)
theorem D.drop {B : Int} {a : List Int} (ha : D B a) (n : Nat) : D B (a.drop n) := fun y hy => ha y (List.mem_of_mem_drop hy)
theorem D.getD {B : Int} (hB : 0 < B) {a : List Int} (ha : D B a) (i : Nat) : 0 ≤ a.getD i 0 ∧ a.getD i 0 < B := by
  by_cases h : i < a.length
  · have := ha _ (List.getElem_mem h)
    simp [List.getD, h]
    exact this
  · simp [List.getD, List.getElem?_eq_none (Nat.le_of_not_lt h), hB]
theorem W_D {l : List Int} : W l ↔ D 4294967296 l := Iff.rfl
theorem getD_set_ne (l : List Int) (i j : Nat) (v : Int) (h : i ≠ j) : (l.set i v).getD j 0 = l.getD j 0 := by
  simp [List.getD, List.getElem?_set_ne h]
theorem getD_set_eq (l : List Int) (i : Nat) (v : Int) (h : i < l.length) : (l.set i v).getD i 0 = v := by
  simp [List.getD, h]
theorem getD_append_right (a b : List Int) (i : Nat) (h : a.length ≤ i) : (a ++ b).getD i 0 = b.getD (i - a.length) 0 := by
  simp [List.getD, List.getElem?_append_right h]
end Go.Proofs.YtmndbhgbngkakaaDoor.M
end
section
/- What the printed functions of layer nat tell, in numbers: Right, trim, Of, order, sum, less. No condition beyond the lists' lengths. -/
namespace Go.Proofs.YtmndbhgbngkakaaDoor.F

set_option linter.all false
open Go.RowKit Go.Proofs.YtmndbhgbngkakaaDoor.K Go.Proofs.YtmndbhgbngkakaaDoorW.PrintWords Go.Proofs.YtmndbhgbngkakaaDoorW.PrintLast Go.Proofs.YtmndbhgbngkakaaDoorW.PrintMore Go.Proofs.YtmndbhgbngkakaaDoor.M

theorem rd_nat (l : List Int) (n : Nat) : rd l (n : Int) = l.getD n 0 := by simp [rd]
theorem take_snoc (l : List Int) (n : Nat) (h : n < l.length) : l.take (n + 1) = l.take n ++ [l.getD n 0] := by
  rw [List.take_succ_eq_append_getElem h]
  simp [List.getD, h]
theorem drop_cons (l : List Int) (n : Nat) (h : n < l.length) : l.drop n = l.getD n 0 :: l.drop (n + 1) := by
  rw [List.drop_eq_getElem_cons h]
  simp [List.getD, h]
theorem take_set_self (l : List Int) (n : Nat) (v : Int) (h : n < l.length) : (l.set n v).take (n + 1) = l.take n ++ [v] := by
  rw [take_snoc _ _ (by simpa using h)]
  congr 1
  · rw [List.take_set_of_le (Nat.le_refl n)]
  · simp [List.getD, h]
theorem getD_end (l : List Int) (n : Nat) (h : l.length ≤ n) : l.getD n 0 = 0 := by simp [List.getD, List.getElem?_eq_none h]

theorem trim_l0 (l : List Int) (hl : l.length < 9223372036854775808) (n : Nat) (hn : n ≤ l.length) : Ev (fun k => nat_trim.l0 k l (n : Int)) (trimL (l.take n)) := by
  induction n with
  | zero =>
    refine Ev.step (f := fun _ => some []) (fun k => ?_) (by simpa [trimL] using Ev.now ([] : List Int))
    simp only [nat_trim.l0]
    rw [if_neg (by omega), if_pos (by omega), if_pos (by omega)]
    rfl
  | succ n ih =>
    have e : wrap64 (((n + 1 : Nat) : Int) - 1) = (n : Int) := by rw [wrap64_in (by omega) (by omega)]; omega
    have t := take_snoc l n (by omega)
    by_cases h0 : rd l n = 0
    · refine Ev.step (f := fun k => nat_trim.l0 k l (n : Int)) (fun k => ?_) ?_
      · simp only [nat_trim.l0]
        rw [if_pos (by omega), e, if_pos (by omega), if_pos (by omega), if_pos h0]
      · rw [rd_nat] at h0
        rw [t, h0, trimL_snoc]
        exact ih (by omega)
    · refine Ev.step (f := fun _ => some (l.take (n + 1))) (fun k => ?_) ?_
      · simp only [nat_trim.l0]
        rw [if_pos (by omega), e, if_pos (by omega), if_pos (by omega), if_neg h0, if_pos (by omega), if_pos (by omega)]
        rfl
      · rw [rd_nat] at h0
        rw [t, trimL_snoc_ne _ h0]
        exact Ev.now _
theorem trim_ev (l : List Int) (hl : l.length < 9223372036854775808) : Ev (fun k => nat_trim.f k l) (trimL l) := by
  have := trim_l0 l hl l.length (Nat.le_refl _)
  rw [List.take_length] at this
  exact this
theorem trim_lim {l : List Int} (hl : l.length < 9223372036854775808) (hw : W l) {n : Nat} (hv : val l = n) : Ev (fun k => nat_trim.f k l) (lim n) := by
  have := trim_ev l hl
  rw [trimL_lim hw, hv] at this
  exact this

theorem of_ev (n : Nat) (h : n < 18446744073709551616) : Ev (fun k => nat_Of.f k (n : Int)) (lim n) := by
  refine Ev.bind (g := fun k => nat_trim.f k [(n : Int) % 4294967296, ((n : Int) / 4294967296) % 4294967296]) (f := fun _ t => some t) (a := lim n) ?_ (Ev.now _)
  refine trim_lim (by simp) ?_ ?_
  · exact W.cons (by omega) (by omega) (W.cons (by omega) (by omega) W.nil)
  · simp only [val]; omega
theorem of_ev' {x : Int} (n : Nat) (hx : x = n) (h : n < 18446744073709551616) : Ev (fun k => nat_Of.f k x) (lim n) := by subst hx; exact of_ev n h

theorem clone_eq (l : List Int) (h : l.length < 35184372088832) : api_Nat_uint32.f l = some l := by
  unfold api_Nat_uint32.f
  simp only [Option.bind_some]
  rw [if_pos (by simpa using h)]
  rfl

/-- Is it a natural? -/
def rightB (l : List Int) : Bool := decide (l.length ≤ 64 ∧ (l.length = 0 ∨ l.getD (l.length - 1) 0 ≠ 0))
theorem right_eq (l : List Int) (hl : l.length < 9223372036854775808) : nat_Right.f l = some (rightB l) := by
  unfold nat_Right.f rightB
  by_cases h1 : l.length ≤ 64
  · rw [if_pos (by omega)]
    by_cases h2 : l.length = 0
    · rw [if_pos (by omega)]; simp [h1, h2]
    · have e : wrap64 ((l.length : Int) - 1) = ((l.length - 1 : Nat) : Int) := by rw [wrap64_in (by omega) (by omega)]; omega
      rw [if_neg (by omega), e, if_pos (by omega), if_pos (by omega), rd_nat]
      simp only [h1, h2, true_and, false_or, bne, ne_eq]
      congr 1
      generalize l.getD (l.length - 1) 0 = z
      by_cases c : z = 0 <;> simp [c]
  · rw [if_neg (by omega)]; simp [h1]
theorem right_can {l : List Int} (h : rightB l = true) : Cano l ∧ l.length ≤ 64 := by
  unfold rightB at h
  have h' := of_decide_eq_true h
  refine ⟨can_of fun h0 => ?_, h'.1⟩
  rcases h'.2 with h2 | h2
  · omega
  · exact h2
theorem right_lim {n : Nat} (h : n < 4294967296 ^ 64) : rightB (lim n) = true := by
  unfold rightB
  refine decide_eq_true ⟨len_le.2 h, ?_⟩
  by_cases h0 : (lim n).length = 0
  · exact .inl h0
  · exact .inr (last_ne (lim_can n) (by omega))
/-- A natural is the limbs of a number below 2^2048. -/
theorem right_nat {l : List Int} (hw : W l) (h : rightB l = true) : ∃ n : Nat, l = lim n ∧ n < 4294967296 ^ 64 := by
  obtain ⟨hc, h64⟩ := right_can h
  have e := can_lim hw hc
  refine ⟨(val l).toNat, e, ?_⟩
  rw [e] at h64
  exact len_le.1 h64

/-! ### order -/
def cmpI (x y : Nat) : Int := if x < y then -1 else if x = y then 0 else 1
theorem val_take_cmp (a b : List Int) (ha : W a) (hb : W b) (n : Nat) (h1 : n < a.length) (h2 : n < b.length) :
    (a.getD n 0 < b.getD n 0 → val (a.take (n + 1)) < val (b.take (n + 1))) := by
  intro h
  rw [take_snoc a n h1, take_snoc b n h2, val_append, val_append, List.length_take, List.length_take, Nat.min_eq_left (by omega), Nat.min_eq_left (by omega)]
  have p := pow_pos n
  have va := val_lt (ha.take n)
  have vb := val_nonneg (hb.take n)
  rw [List.length_take, Nat.min_eq_left (by omega)] at va
  simp only [val]
  have : (4294967296 : Int) ^ n * (a.getD n 0 + 1) ≤ 4294967296 ^ n * b.getD n 0 := Int.mul_le_mul_of_nonneg_left (by omega) (by omega)
  rw [Int.mul_add] at this
  simp only [Int.mul_zero, Int.add_zero]
  omega
theorem order_l0 (a b : List Int) (ha : W a) (hb : W b) (hl : a.length = b.length) (hm : a.length < 9223372036854775808) (n : Nat) (hn : n ≤ a.length) :
    Ev (fun k => nat_order.l0 k a b ((n : Int) - 1)) (cmpI (val (a.take n)).toNat (val (b.take n)).toNat) := by
  induction n with
  | zero =>
    refine Ev.step (f := fun _ => some 0) (fun k => ?_) (by simpa [val, cmpI] using Ev.now (0 : Int))
    simp only [nat_order.l0]
    rw [if_neg (by omega)]
  | succ n ih =>
    have e0 : ((n + 1 : Nat) : Int) - 1 = (n : Int) := by omega
    have e : wrap64 ((n : Int) - 1) = (n : Int) - 1 := wrap64_in (by omega) (by omega)
    have na := val_nonneg (ha.take (n + 1))
    have nb := val_nonneg (hb.take (n + 1))
    rw [e0]
    by_cases h1 : rd a n < rd b n
    · refine Ev.step (f := fun _ => some (-1)) (fun k => ?_) ?_
      · simp only [nat_order.l0]
        rw [if_pos (by omega), if_pos (by omega), if_pos (by omega), if_pos (by omega), if_pos h1]
      · rw [rd_nat, rd_nat] at h1
        have := val_take_cmp a b ha hb n (by omega) (by omega) h1
        rw [show cmpI (val (a.take (n + 1))).toNat (val (b.take (n + 1))).toNat = -1 from by unfold cmpI; rw [if_pos (by omega)]]
        exact Ev.now _
    · by_cases h2 : rd a n > rd b n
      · refine Ev.step (f := fun _ => some 1) (fun k => ?_) ?_
        · simp only [nat_order.l0]
          rw [if_pos (by omega), if_pos (by omega), if_pos (by omega), if_pos (by omega), if_neg h1, if_pos h2]
        · rw [rd_nat, rd_nat] at h2
          have := val_take_cmp b a hb ha n (by omega) (by omega) h2
          rw [show cmpI (val (a.take (n + 1))).toNat (val (b.take (n + 1))).toNat = 1 from by unfold cmpI; rw [if_neg (by omega), if_neg (by omega)]]
          exact Ev.now _
      · refine Ev.step (f := fun k => nat_order.l0 k a b ((n : Int) - 1)) (fun k => ?_) ?_
        · simp only [nat_order.l0]
          rw [if_pos (by omega), if_pos (by omega), if_pos (by omega), if_pos (by omega), if_neg h1, if_neg h2, e]
        · have h3 : a.getD n 0 = b.getD n 0 := by rw [rd_nat, rd_nat] at h1 h2; omega
          have := ih (by omega)
          rw [show cmpI (val (a.take (n + 1))).toNat (val (b.take (n + 1))).toNat = cmpI (val (a.take n)).toNat (val (b.take n)).toNat from ?_]
          · exact this
          · rw [take_snoc a n (by omega), take_snoc b n (by omega), val_append, val_append, List.length_take, List.length_take, Nat.min_eq_left (by omega), Nat.min_eq_left (by omega), h3]
            have p := pow_pos n
            have va := val_nonneg (ha.take n)
            have vb := val_nonneg (hb.take n)
            have hd := hb.getD n
            have : 0 ≤ (4294967296 : Int) ^ n * val [b.getD n 0] := Int.mul_nonneg (by omega) (val_nonneg (W.cons hd.1 hd.2 W.nil))
            unfold cmpI
            generalize (4294967296 : Int) ^ n * val [b.getD n 0] = z at this
            by_cases c1 : (val (a.take n)).toNat < (val (b.take n)).toNat
            · rw [if_pos c1, if_pos (by omega)]
            · rw [if_neg c1, if_neg (by omega)]
              by_cases c2 : (val (a.take n)).toNat = (val (b.take n)).toNat
              · rw [if_pos c2, if_pos (by omega)]
              · rw [if_neg c2, if_neg (by omega)]
theorem mxmn {z : Int} (h : z ≠ 0) : 2 * mn (mx z 0) 1 - 1 = if z < 0 then -1 else 1 := by
  unfold mn mx
  by_cases h1 : z < 0
  · rw [if_pos h1, if_pos h1, if_neg (by omega)]; rfl
  · rw [if_neg h1, if_neg h1]
    by_cases h2 : 1 < z
    · rw [if_pos h2]; rfl
    · rw [if_neg h2]; omega
theorem order_ev (x y : Nat) (hx : (lim x).length < 4611686018427387904) (hy : (lim y).length < 4611686018427387904) : Ev (fun k => nat_order.f k (lim x) (lim y)) (cmpI x y) := by
  unfold nat_order.f
  by_cases h : (lim x).length = (lim y).length
  · have := order_l0 (lim x) (lim y) (W_lim x) (W_lim y) h (by omega) (lim x).length (Nat.le_refl _)
    rw [List.take_length, h, List.take_length, val_lim, val_lim] at this
    refine Ev.congr (f := fun k => nat_order.l0 k (lim x) (lim y) (((lim y).length : Int) - 1)) (fun k => ?_) this
    rw [if_pos (by omega), wrap64_in (by omega) (by omega), h]
  · refine Ev.congr (f := fun _ => some (cmpI x y)) (fun k => ?_) (Ev.now _)
    rw [if_neg (by omega), wrap64_in (by omega) (by omega)]
    rw [mxmn (by omega)]
    congr 1
    unfold cmpI
    rcases Nat.lt_or_gt_of_ne h with h' | h'
    · have := lt_of_len h'
      rw [if_pos this, if_pos (by omega)]
    · have := lt_of_len h'
      rw [if_neg (by omega), if_neg (by omega), if_neg (by omega)]
end Go.Proofs.YtmndbhgbngkakaaDoor.F
end
section
/- What the printed functions of layer nat tell, in numbers: sums, differences, products, and the calls over them. No condition beyond the lists' lengths. -/
namespace Go.Proofs.YtmndbhgbngkakaaDoor.F

set_option linter.all false
open Go.RowKit Go.Proofs.YtmndbhgbngkakaaDoor.K Go.Proofs.YtmndbhgbngkakaaDoorW.PrintWords Go.Proofs.YtmndbhgbngkakaaDoorW.PrintLast Go.Proofs.YtmndbhgbngkakaaDoorW.PrintMore Go.Proofs.YtmndbhgbngkakaaDoor.M

theorem at_eq (l : List Int) (hw : W l) (i : Nat) : nat_at.f l (i : Int) = some (l.getD i 0) := by
  have h := hw.getD i
  unfold nat_at.f
  by_cases c : i < l.length
  · rw [if_pos (by omega), if_pos (by omega), rd_nat, u64_in (by omega) (by omega)]
  · rw [if_neg (by omega), getD_end _ _ (by omega)]

/-! ### Same -/

/-! ### sum -/

/-! ### less -/
end Go.Proofs.YtmndbhgbngkakaaDoor.F
end
section
/- What the printed functions of layer nat tell, in numbers: products, bits, and the exported calls. No condition beyond the lists' lengths. -/
namespace Go.Proofs.YtmndbhgbngkakaaDoor.F

set_option linter.all false
open Go.RowKit Go.Proofs.YtmndbhgbngkakaaDoor.K Go.Proofs.YtmndbhgbngkakaaDoorW.PrintWords Go.Proofs.YtmndbhgbngkakaaDoorW.PrintLast Go.Proofs.YtmndbhgbngkakaaDoorW.PrintMore Go.Proofs.YtmndbhgbngkakaaDoor.M

theorem mul_lt_sq {x y : Int} (hx0 : 0 ≤ x) (hx : x < 4294967296) (hy0 : 0 ≤ y) (hy : y < 4294967296) : 0 ≤ x * y ∧ x * y ≤ 18446744065119617025 := by
  refine ⟨Int.mul_nonneg hx0 hy0, ?_⟩
  have h1 : x * y ≤ 4294967295 * y := Int.mul_le_mul_of_nonneg_right (by omega) hy0
  omega
/-- One row of a product: the limbs from i on. -/
theorem times_l1 (b : List Int) (hb : W b) (x : Int) (hx0 : 0 ≤ x) (hx1 : x < 4294967296) (A : List Int) (n i : Nat) (hi : i < 1099511627776) (hlb : b.length < 1099511627776) {R : List Int} (m : Nat) :
    ∀ (o : List Int) (c : Int) (j : Nat), j + m = b.length → W o → i + b.length < o.length → o.length < 2199023255552 → 0 ≤ c → c < 4294967296 →
    Ev (fun k => nat_times.l0 k b (o.take (i + j) ++ (carr 4294967296 (fun t => x * b.getD t 0 + o.getD (i + t) 0) m c j).1 ++ [(carr 4294967296 (fun t => x * b.getD t 0 + o.getD (i + t) 0) m c j).2 % 4294967296] ++ o.drop (i + b.length + 1)) A (n : Int) ((i + 1 : Nat) : Int)) R →
    Ev (fun k => nat_times.l1 k b o (i : Int) x c A (n : Int) (i : Int) b (b.length : Int) (j : Int)) R := by
  induction m with
  | zero =>
    intro o c j h ho hl hL h0 h1 H
    refine Ev.step (f := fun k => nat_times.l0 k b (o.take (i + j) ++ (carr 4294967296 (fun t => x * b.getD t 0 + o.getD (i + t) 0) 0 c j).1 ++ [(carr 4294967296 (fun t => x * b.getD t 0 + o.getD (i + t) 0) 0 c j).2 % 4294967296] ++ o.drop (i + b.length + 1)) A (n : Int) ((i + 1 : Nat) : Int)) (fun k => ?_) H
    simp only [nat_times.l1]
    rw [if_neg (by omega), wrap64_in (n := (i : Int) + (b.length : Int)) (by omega) (by omega), if_pos (by omega), if_pos (by omega), wrap64_in (by omega) (by omega)]
    simp only [carr, List.append_nil]
    rw [show ((i : Int) + (b.length : Int)).toNat = i + j from by omega, show i + b.length + 1 = i + j + 1 from by omega, List.set_eq_take_append_cons_drop, if_pos (by omega)]
    simp [List.append_assoc]
  | succ m ih =>
    intro o c j h ho hl hL h0 h1 H
    have wb := hb.getD j
    have wo := ho.getD (i + j)
    have hm := mul_lt_sq hx0 hx1 wb.1 wb.2
    obtain ⟨v, hv⟩ : ∃ v, v = x * b.getD j 0 + o.getD (i + j) 0 + c := ⟨_, rfl⟩
    have hv0 : 0 ≤ v := by omega
    have hv1 : v < 18446744073709551616 := by omega
    refine Ev.step (f := fun k => nat_times.l1 k b (o.set (i + j) (v % 4294967296)) (i : Int) x (v / 4294967296) A (n : Int) (i : Int) b (b.length : Int) ((j + 1 : Nat) : Int)) (fun k => ?_) ?_
    · simp only [nat_times.l1]
      rw [if_pos (by omega), if_pos (by omega), if_pos (by omega), wrap64_in (n := (i : Int) + (j : Int)) (by omega) (by omega), if_pos (by omega), if_pos (by omega), rd_nat, show (i : Int) + (j : Int) = ((i + j : Nat) : Int) from by omega, rd_nat, Int.toNat_natCast, u64_in (n := x) (by omega) (by omega), u64_in (n := b.getD j 0) (by omega) (by omega), u64_in (n := o.getD (i + j) 0) (by omega) (by omega), u64_in (n := x * b.getD j 0) (by omega) (by omega), u64_in (n := x * b.getD j 0 + o.getD (i + j) 0) (by omega) (by omega), u64_in (by omega) (by omega), show c + (x * b.getD j 0 + o.getD (i + j) 0) = v from by omega, wrap64_in (by omega) (by omega)]
      rfl
    · refine ih (o.set (i + j) (v % 4294967296)) (v / 4294967296) (j + 1) (by omega) (ho.set _ (by omega) (by omega)) (by simpa using hl) (by simpa using hL) (by omega) (by omega) ?_
      have ec : ∀ t, j + 1 ≤ t → x * b.getD t 0 + (o.set (i + j) (v % 4294967296)).getD (i + t) 0 = x * b.getD t 0 + o.getD (i + t) 0 := fun t ht => by
        rw [M.getD_set_ne _ _ _ _ (by omega)]
      rw [carr_congr 4294967296 m _ _ ec, show i + (j + 1) = i + j + 1 from by omega, take_set_self _ _ _ (by omega), List.drop_set_of_lt (by omega)]
      simp only [carr] at H
      rw [← hv] at H
      simpa [List.append_assoc] using H
/-- The rows of a product, from the i-th on. -/
theorem times_l0 (a b : List Int) (ha : W a) (hb : W b) (hla : a.length < 1099511627776) (hlb : b.length < 1099511627776) (m : Nat) :
    ∀ (o : List Int) (i : Nat), i + m = a.length → W o → o.length = a.length + b.length → val (o.take (i + b.length)) = val (a.take i) * val b → (∀ t, i + b.length ≤ t → o.getD t 0 = 0) →
    Ev (fun k => nat_times.l0 k b o a (a.length : Int) (i : Int)) (lim (val a * val b).toNat) := by
  induction m with
  | zero =>
    intro o i h ho hl hv hz
    refine Ev.step (f := fun k => (nat_trim.f k o).bind fun t => some t) (fun k => ?_) ?_
    · simp only [nat_times.l0]; rw [if_neg (by omega)]
    · refine Ev.bind (a := lim (val a * val b).toNat) ?_ (Ev.now _)
      rw [List.take_of_length_le (by omega), List.take_of_length_le (by omega)] at hv
      have := trim_ev o (by omega)
      rw [trimL_lim ho, hv] at this
      exact this
  | succ m ih =>
    intro o i h ho hl hv hz
    have wa := ha.getD i
    refine Ev.step (f := fun k => nat_times.l1 k b o (i : Int) (a.getD i 0) 0 a (a.length : Int) (i : Int) b (b.length : Int) ((0 : Nat) : Int)) (fun k => ?_) ?_
    · simp only [nat_times.l0]
      rw [if_pos (by omega), if_pos (by omega), if_pos (by omega), rd_nat]
      rfl
    · refine times_l1 b hb (a.getD i 0) wa.1 wa.2 a a.length i (by omega) hlb b.length o 0 0 (by omega) ho (by omega) (by omega) (by omega) (by omega) ?_
      have hD := carr_D (B := 4294967296) (by decide) (fun t => a.getD i 0 * b.getD t 0 + o.getD (i + t) 0) b.length 0 0
      have hC := carr_val 4294967296 (fun t => a.getD i 0 * b.getD t 0 + o.getD (i + t) 0) b.length 0 0
      have hL := carr_len 4294967296 (fun t => a.getD i 0 * b.getD t 0 + o.getD (i + t) 0) b.length 0 0
      rw [vs_add, vs_mul, vs_list _ _ _ _ (by omega), vs_seg _ _ _ _ _ (by omega), List.drop_zero, vb_val, vb_val, vb_val, Nat.add_zero] at hC
      generalize (carr 4294967296 (fun t => a.getD i 0 * b.getD t 0 + o.getD (i + t) 0) b.length 0 0).1 = S at hD hC hL ⊢
      generalize (carr 4294967296 (fun t => a.getD i 0 * b.getD t 0 + o.getD (i + t) 0) b.length 0 0).2 = q at hC ⊢
      have hS := W_D.2 hD
      have s0 := val_nonneg hS
      have s1 := val_lt hS
      rw [hL] at s1
      have b0 := val_nonneg hb
      have b1 := val_lt hb
      have hseg := (ho.drop i).take b.length
      have g0 := val_nonneg hseg
      have g1 := val_lt hseg
      rw [List.length_take, List.length_drop, Nat.min_eq_left (by omega)] at g1
      have p0 := pow_pos b.length
      have e1 : a.getD i 0 * val b ≤ 4294967295 * val b := Int.mul_le_mul_of_nonneg_right (by omega) b0
      have e0 : 0 ≤ a.getD i 0 * val b := Int.mul_nonneg wa.1 b0
      have q0 : 0 ≤ q := by
        rcases Int.lt_or_le q 0 with c | c
        · have : (4294967296 : Int) ^ b.length * (q + 1) ≤ 0 := Int.mul_nonpos_of_nonneg_of_nonpos (by omega) (by omega)
          rw [Int.mul_add] at this
          omega
        · exact c
      have q1 : q < 4294967296 := by
        rcases Int.lt_or_le q 4294967296 with c | c
        · exact c
        · have : (4294967296 : Int) ^ b.length * 4294967296 ≤ 4294967296 ^ b.length * q := Int.mul_le_mul_of_nonneg_left c (by omega)
          omega
      rw [show q % 4294967296 = q from by omega, Nat.add_zero]
      have wt := ho.take i
      have lt : (o.take i).length = i := by rw [List.length_take]; omega
      have lS : (o.take i ++ S ++ [q]).length = i + 1 + b.length := by simp [lt, hL]; omega
      refine ih (o.take i ++ S ++ [q] ++ o.drop (i + b.length + 1)) (i + 1) (by omega) (((wt.append hS).append (W.cons q0 q1 W.nil)).append (ho.drop _)) (by simp [lt, hL]; omega) ?_ ?_
      · rw [← lS, List.take_left, val_append, val_append, List.length_append, lt, hL, take_snoc a i (by omega), val_append, List.length_take, Nat.min_eq_left (by omega)]
        have et : o.take (i + b.length) = o.take i ++ (o.drop i).take b.length := List.take_add
        rw [et, val_append, lt] at hv
        have hq : val [q] = q := by simp [val]
        have hx : val [a.getD i 0] = a.getD i 0 := by simp [val]
        rw [hq, hx, Int.add_mul, ← hv]
        have k1 : (4294967296 : Int) ^ (i + b.length) * q = 4294967296 ^ i * (4294967296 ^ b.length * q) := by rw [Int.pow_add, Int.mul_assoc]
        rw [k1, Int.mul_assoc, Int.add_assoc, ← Int.mul_add, hC, Int.add_zero, Int.mul_add, Int.mul_comm (4294967296 ^ i) (a.getD i 0 * val b)]
        omega
      · intro t ht
        rw [getD_append_right _ _ _ (by omega), lS]
        have : (o.drop (i + b.length + 1)).getD (t - (i + 1 + b.length)) 0 = o.getD t 0 := by
          simp only [List.getD, List.getElem?_drop]
          congr 2
          omega
        rw [this]
        exact hz t (by omega)
theorem times_ev (x y : Nat) (hx : (lim x).length < 1099511627776) (hy : (lim y).length < 1099511627776) : Ev (fun k => nat_times.f k (lim x) (lim y)) (lim (x * y)) := by
  refine Ev.congr (f := fun k => nat_times.l0 k (lim y) (List.replicate ((lim x).length + (lim y).length) 0) (lim x) ((lim x).length : Int) ((0 : Nat) : Int)) (fun k => ?_) ?_
  · unfold nat_times.f
    rw [wrap64_in (by omega) (by omega), if_pos (by omega), if_pos (by omega), show (((lim x).length : Int) + ((lim y).length : Int)).toNat = (lim x).length + (lim y).length from by omega]
    rfl
  · have := times_l0 (lim x) (lim y) (W_lim x) (W_lim y) hx hy (lim x).length (List.replicate ((lim x).length + (lim y).length) 0) 0 (by omega) (W.replicate _) (by simp) ?_ ?_
    · rw [val_lim, val_lim] at this
      rw [show ((x : Int) * (y : Int)).toNat = x * y from by rw [← Int.natCast_mul, Int.toNat_natCast]] at this
      exact this
    · rw [List.take_replicate, val_replicate]; simp [val]
    · intro t ht
      simp only [List.getD, List.getElem?_replicate]
      split <;> rfl

/-! ### the exported calls -/
theorem kept_eq (n : Nat) (h : (lim n).length < 9223372036854775808) : nat_kept.f (lim n) = some (if n < 4294967296 ^ 64 then (lim n, 0) else ([], 6)) := by
  unfold nat_kept.f
  by_cases c : n < 4294967296 ^ 64
  · have := len_le.2 c
    rw [if_neg (by omega), if_pos c]
  · have := len_lt.2 (Nat.le_of_not_lt c)
    rw [if_pos (by omega), if_neg c]
/-- What a call tells of a number: its limbs, or that it is too big. -/
def capped (n : Nat) : List Int × Int := if n < 4294967296 ^ 64 then (lim n, 0) else ([], 6)
theorem mul_ev (x y : Nat) (hx : x < 4294967296 ^ 64) (hy : y < 4294967296 ^ 64) : Ev (fun k => nat_Mul.f k (lim x) (lim y)) (capped (x * y)) := by
  have lx := len_le.2 hx
  have ly := len_le.2 hy
  refine Ev.congr (f := fun k => nat_Mul.j0 k (lim x) (lim y) false) (fun k => ?_) ?_
  · unfold nat_Mul.f
    rw [right_eq _ (by omega), right_eq _ (by omega), right_lim hx, right_lim hy]
    rfl
  · refine Ev.step (f := fun k => (nat_times.f k (lim x) (lim y)).bind fun t => (nat_kept.f t).bind fun b => some (b.1, b.2)) (fun k => ?_) ?_
    · simp only [nat_Mul.j0]; rw [if_neg (by decide)]
    · refine Ev.bind (a := lim (x * y)) (times_ev x y (by omega) (by omega)) ?_
      have hl : (lim (x * y)).length ≤ 128 := len_le.2 (by
        rw [show (128 : Nat) = 64 + 64 from rfl, Nat.pow_add]
        exact Nat.mul_lt_mul'' hx hy)
      rw [kept_eq _ (by omega)]
      exact Ev.now _
theorem cmp_ev (x y : Nat) (hx : x < 4294967296 ^ 64) (hy : y < 4294967296 ^ 64) : Ev (fun k => nat_Cmp.f k (lim x) (lim y)) (cmpI x y) := by
  have lx := len_le.2 hx
  have ly := len_le.2 hy
  refine Ev.congr (f := fun k => (nat_order.f k (lim x) (lim y)).bind fun t => some t) (fun k => ?_) ?_
  · unfold nat_Cmp.f
    rw [right_eq _ (by omega), right_eq _ (by omega), right_lim hx, right_lim hy]
    rfl
  · exact Ev.bind (a := cmpI x y) (order_ev x y (by omega) (by omega)) (Ev.now _)
end Go.Proofs.YtmndbhgbngkakaaDoor.F
end
section
/- What the printed functions of the document's answer for layer nat tell, in numbers: Right, Small, Half, Whole, Cmp, Add, Sub. No condition beyond the lists' lengths. -/
namespace Go.Proofs.YtmndbhgbngkakaaDoor.F

set_option linter.all false
open Go.RowKit Go.Proofs.YtmndbhgbngkakaaDoor.K Go.Proofs.YtmndbhgbngkakaaDoorW.PrintWords Go.Proofs.YtmndbhgbngkakaaDoorW.PrintLast Go.Proofs.YtmndbhgbngkakaaDoorW.PrintMore Go.Proofs.YtmndbhgbngkakaaDoor.M


/-! ### halves -/
def hd (a : List Int) (i : Nat) : Int := if i % 2 = 0 then a.getD (i / 2) 0 % 65536 else a.getD (i / 2) 0 / 65536
def hl (a : List Int) : Nat → Nat → List Int
  | 0, _ => []
  | m + 1, i => hd a i :: hl a m (i + 1)

/-! ### wholes -/

/-! ### Cmp -/
end Go.Proofs.YtmndbhgbngkakaaDoor.F
end
section
/- What the printed functions of the document's answer for layer nat tell, in numbers: Add, Sub, Mul, and the laws' own 'told'. No condition beyond the lists' lengths. -/
namespace Go.Proofs.YtmndbhgbngkakaaDoor.F

set_option linter.all false
open Go.RowKit Go.Proofs.YtmndbhgbngkakaaDoor.K Go.Proofs.YtmndbhgbngkakaaDoorW.PrintWords Go.Proofs.YtmndbhgbngkakaaDoorW.PrintLast Go.Proofs.YtmndbhgbngkakaaDoorW.PrintMore Go.Proofs.YtmndbhgbngkakaaDoor.M


/-! ### Add -/

/-! ### Sub -/
end Go.Proofs.YtmndbhgbngkakaaDoor.F
end
section
/- What the printed product of the document's answer for layer nat tells, in numbers. No condition beyond the lists' lengths. -/
namespace Go.Proofs.YtmndbhgbngkakaaDoor.F

set_option linter.all false
open Go.RowKit Go.Proofs.YtmndbhgbngkakaaDoor.K Go.Proofs.YtmndbhgbngkakaaDoorW.PrintWords Go.Proofs.YtmndbhgbngkakaaDoorW.PrintLast Go.Proofs.YtmndbhgbngkakaaDoorW.PrintMore Go.Proofs.YtmndbhgbngkakaaDoor.M

theorem D.set {B : Int} {a : List Int} (ha : D B a) (i : Nat) {v : Int} (h0 : 0 ≤ v) (h1 : v < B) : D B (a.set i v) := fun y hy => by
  rcases List.mem_or_eq_of_mem_set hy with h | rfl
  · exact ha y h
  · exact ⟨h0, h1⟩

/-! ### told -/
end Go.Proofs.YtmndbhgbngkakaaDoor.F
end
section
/- Bits of numbers, and what the printed Bits of both sides tell. No condition beyond the lists' lengths. -/
namespace Go.Proofs.YtmndbhgbngkakaaDoor.M

set_option linter.all false
/-- How many bits. -/
def bl (n : Nat) : Nat := if n = 0 then 0 else bl (n / 2) + 1
termination_by n
decreasing_by omega
theorem bl_zero : bl 0 = 0 := by rw [bl]; rfl
theorem bl_pos {n : Nat} (h : n ≠ 0) : bl n = bl (n / 2) + 1 := by rw [bl, if_neg h]
theorem bl_lt (n : Nat) : n < 2 ^ bl n := by
  induction n using Nat.strongRecOn with
  | _ n ih =>
    by_cases h : n = 0
    · subst h; rw [bl_zero]; decide
    · rw [bl_pos h, Nat.pow_succ]
      have := ih (n / 2) (by omega)
      omega
theorem bl_le {n m : Nat} (h : n < 2 ^ m) : bl n ≤ m := by
  induction m generalizing n with
  | zero => have : n = 0 := by simpa using h
            subst this; rw [bl_zero]; omega
  | succ m ih =>
    by_cases h0 : n = 0
    · subst h0; rw [bl_zero]; omega
    · rw [bl_pos h0]
      have := ih (n := n / 2) (by rw [Nat.pow_succ] at h; omega)
      omega
theorem bl_low {n : Nat} (h : n ≠ 0) : 2 ^ (bl n - 1) ≤ n := by
  rcases Nat.lt_or_ge n (2 ^ (bl n - 1)) with c | c
  · have h1 := bl_le c
    have : bl n ≠ 0 := by rw [bl_pos h]; omega
    omega
  · exact c
theorem bitLenAux_bl (f : Nat) : ∀ x, x < 2 ^ f → Lib.bitLenAux f x = bl x := by
  induction f with
  | zero => intro x h; have : x = 0 := by simpa using h
            subst this; rw [bl_zero]; rfl
  | succ f ih =>
    intro x h
    rw [Lib.bitLenAux]
    by_cases h0 : x = 0
    · rw [if_pos h0, h0, bl_zero]
    · rw [if_neg h0, bl_pos h0, ih (x / 2) (by rw [Nat.pow_succ] at h; omega)]
      omega
theorem bitLen_bl {x : Nat} (h : x < 18446744073709551616) : Lib.bitLen x = bl x := bitLenAux_bl 64 x (by simpa using h)
end Go.Proofs.YtmndbhgbngkakaaDoor.M
namespace Go.Proofs.YtmndbhgbngkakaaDoor.F

set_option linter.all false
open Go.RowKit Go.Proofs.YtmndbhgbngkakaaDoor.K Go.Proofs.YtmndbhgbngkakaaDoorW.PrintWords Go.Proofs.YtmndbhgbngkakaaDoorW.PrintLast Go.Proofs.YtmndbhgbngkakaaDoorW.PrintMore Go.Proofs.YtmndbhgbngkakaaDoor.M

end Go.Proofs.YtmndbhgbngkakaaDoor.F
end
section
/- Division: by one limb; joins of bits. No condition beyond the lists' lengths. -/
namespace Go.Proofs.YtmndbhgbngkakaaDoor.F

set_option linter.all false
open Go.RowKit Go.Proofs.YtmndbhgbngkakaaDoor.K Go.Proofs.YtmndbhgbngkakaaDoorW.PrintWords Go.Proofs.YtmndbhgbngkakaaDoorW.PrintLast Go.Proofs.YtmndbhgbngkakaaDoorW.PrintMore Go.Proofs.YtmndbhgbngkakaaDoor.M

theorem join64 {a b : Int} (ha : 0 ≤ a) (ha1 : a < 4294967296) (hb : 0 ≤ b) (hb1 : b < 4294967296) : Go.bits .or .u64 (IntKind.u64.wrap (a * 4294967296)) (IntKind.u64.wrap b) = a * 4294967296 + b := by
  rw [u64_in (by omega) (by omega), u64_in (by omega) (by omega)]
  exact Go.bits_join .u64 64 (by decide) wraps_u64 32 _ _ (by omega) (by omega) (by omega) hb (by omega) (by omega)
theorem div_lt {x b n : Int} (hb : 0 < b) (h : x < n * b) : x / b < n := Int.ediv_lt_of_lt_mul hb h
theorem short_l0 (a : List Int) (ha : W a) (hla : a.length < 4611686018427387904) (b : Int) (hb : 0 < b) (hb1 : b < 4294967296) (n : Nat) :
    ∀ (o : List Int) (r : Int), n ≤ a.length → o.length = a.length → W o → 0 ≤ r → r < b → val (o.drop n) * b + r = val (a.drop n) →
    Ev (fun k => nat_short.l0 k a b o r ((n : Int) - 1)) (lim (val a / b).toNat, val a % b) := by
  induction n with
  | zero =>
    intro o r _ hl hw h0 h1 hv
    rw [List.drop_zero, List.drop_zero] at hv
    have e1 : val a / b = val o := by
      rw [← hv, Int.add_comm, Int.add_mul_ediv_right _ _ (by omega), Int.ediv_eq_zero_of_lt h0 h1, Int.zero_add]
    have e2 : val a % b = r := by
      rw [← hv, Int.add_comm, Int.add_mul_emod_self_right, Int.emod_eq_of_lt h0 h1]
    rw [e1, e2]
    refine Ev.step (f := fun k => (nat_trim.f k o).bind fun t => some (t, r % 4294967296)) (fun k => ?_) ?_
    · simp only [nat_short.l0]
      rw [if_neg (by omega)]
    · refine Ev.bind (trim_lim (n := (val o).toNat) (by omega) hw (by have := val_nonneg hw; omega)) ?_
      rw [show r % 4294967296 = r from by omega]
      exact Ev.now _
  | succ n ih =>
    intro o r hn hl hw h0 h1 hv
    have wa := ha.getD n
    have hj := join64 (a := r) (b := a.getD n 0) h0 (by omega) wa.1 wa.2
    have q0 : 0 ≤ (r * 4294967296 + a.getD n 0) / b := Int.ediv_nonneg (by omega) (by omega)
    have q1 : (r * 4294967296 + a.getD n 0) / b < 4294967296 := div_lt hb (by omega)
    have r0 := Int.emod_nonneg (r * 4294967296 + a.getD n 0) (show b ≠ 0 by omega)
    have r1 := Int.emod_lt_of_pos (r * 4294967296 + a.getD n 0) hb
    have hd := Int.mul_ediv_add_emod (r * 4294967296 + a.getD n 0) b
    refine Ev.step (f := fun k => nat_short.l0 k a b (o.set n ((r * 4294967296 + a.getD n 0) / b)) ((r * 4294967296 + a.getD n 0) % b) ((n : Int) - 1)) (fun k => ?_) ?_
    · simp only [nat_short.l0]
      rw [show ((n + 1 : Nat) : Int) - 1 = (n : Int) from by omega]
      rw [if_pos (by omega), if_pos (by omega), if_pos (by omega), rd_nat, hj, u64_in (n := b) (by omega) (by omega), if_neg (by omega), if_pos (by omega), tdiv_pos (by omega), tmod_pos (by omega), u64_in q0 (by omega), wrap64_in (by omega) (by omega)]
      rw [show (r * 4294967296 + a.getD n 0) / b % 4294967296 = (r * 4294967296 + a.getD n 0) / b from by omega]
      rfl
    · refine ih _ _ (by omega) (by rw [List.length_set]; exact hl) (hw.set n q0 q1) r0 r1 ?_
      · rw [drop_cons _ n (by rw [List.length_set]; omega), getD_set_eq _ _ _ (by omega), drop_cons a n (by omega), List.drop_set_of_lt (by omega)]
        simp only [val]
        rw [← hv, Int.add_mul, Int.mul_assoc, Int.mul_add, Int.mul_comm _ b]
        omega
theorem short_ev (x b : Nat) (hx : (lim x).length < 1099511627776) (hb : 0 < b) (hb1 : b < 4294967296) : Ev (fun k => nat_short.f k (lim x) (b : Int)) (lim (x / b), ((x % b : Nat) : Int)) := by
  unfold nat_short.f
  simp only [if_pos (show (0 : Int) ≤ ((lim x).length : Int) by omega), Int.toNat_natCast, if_pos (show (lim x).length ≤ 70368744177664 by omega)]
  rw [wrap64_in (n := ((lim x).length : Int) - 1) (by omega) (by omega)]
  have h := short_l0 (lim x) (W_lim x) (by omega) b (by omega) (by omega) (lim x).length (List.replicate (lim x).length 0) 0 (Nat.le_refl _) (by simp) (W.replicate _) (by omega) (by omega) (by simp [val])
  rw [val_lim] at h
  exact h
end Go.Proofs.YtmndbhgbngkakaaDoor.F
end
section
/- Division: shifts of limbs. No condition beyond the lists' lengths. -/
namespace Go.Proofs.YtmndbhgbngkakaaDoor.F

set_option linter.all false
open Go.RowKit Go.Proofs.YtmndbhgbngkakaaDoor.K Go.Proofs.YtmndbhgbngkakaaDoorW.PrintWords Go.Proofs.YtmndbhgbngkakaaDoorW.PrintLast Go.Proofs.YtmndbhgbngkakaaDoorW.PrintMore Go.Proofs.YtmndbhgbngkakaaDoor.M

theorem bits_comm (k : IntKind) (x y : Int) : Go.bits .or k x y = Go.bits .or k y x := by
  simp only [Go.bits, BitVec.or_comm]
theorem two_split (s : Nat) (hs : s < 32) : (2 : Int) ^ s * 2 ^ (32 - s) = 4294967296 := by
  rw [← Int.pow_add, show s + (32 - s) = 32 from by omega]; rfl
theorem two_pos (s : Nat) : (0 : Int) < 2 ^ s := Int.pow_pos (by decide)
theorem two_le (s t : Nat) (h : s ≤ t) : (2 : Int) ^ s ≤ 2 ^ t := by
  obtain ⟨d, rfl⟩ := Nat.exists_eq_add_of_le h
  rw [Int.pow_add]
  have a := two_pos s
  have b := two_pos d
  have := Int.mul_le_mul_of_nonneg_left (show (1 : Int) ≤ 2 ^ d by omega) (show (0 : Int) ≤ 2 ^ s by omega)
  omega
/-- What a limb gives, shifted, with what comes from below. -/
theorem shl_step {a c P Q : Int} (hP : 0 < P) (hQ : 0 < Q) (h : P * Q = 4294967296) (hc : 0 ≤ c) (hc1 : c < P) :
    (a * P + c) / 4294967296 = a / Q ∧ (a * P + c) % 4294967296 = P * (a % Q) + c ∧ a * P % 4294967296 = P * (a % Q) ∧ 0 ≤ P * (a % Q) ∧ P * (a % Q) + P ≤ 4294967296 := by
  have m0 := Int.emod_nonneg a (show Q ≠ 0 by omega)
  have m1 := Int.emod_lt_of_pos a hQ
  have e := Int.mul_ediv_add_emod a Q
  have l0 : 0 ≤ P * (a % Q) := Int.mul_nonneg (by omega) m0
  have l1 : P * (a % Q + 1) ≤ P * Q := Int.mul_le_mul_of_nonneg_left (by omega) (by omega)
  rw [Int.mul_add, Int.mul_one, h] at l1
  have e2 : a * P = 4294967296 * (a / Q) + P * (a % Q) := by
    rw [← h, Int.mul_assoc, ← Int.mul_add, e, Int.mul_comm]
  generalize P * (a % Q) = z at *
  generalize a / Q = w at *
  refine ⟨by omega, by omega, by omega, l0, by omega⟩
theorem shift_l0 (a : List Int) (ha : W a) (hla : a.length < 1099511627776) (s : Nat) (hs : s < 32) (m : Nat) : ∀ (o : List Int) (c : Int) (i : Nat), i + m = a.length → o.length = a.length + 1 → 0 ≤ c → c < 2 ^ s →
    Ev (fun k => nat_shift.l0 k a (s : Int) o c a (a.length : Int) (i : Int)) (o.take i ++ (carr 4294967296 (fun t => a.getD t 0 * 2 ^ s) m c i).1 ++ [(carr 4294967296 (fun t => a.getD t 0 * 2 ^ s) m c i).2]) := by
  induction m with
  | zero =>
    intro o c i h ho h0 h1
    have e := take_set_self o i c (by omega)
    rw [List.take_of_length_le (by rw [List.length_set]; omega)] at e
    refine Ev.step (f := fun _ => some (o.set i c)) (fun k => ?_) (by simp only [carr, List.append_nil]; rw [e]; exact Ev.now _)
    simp only [nat_shift.l0]
    rw [if_neg (by omega), if_pos (by omega), if_pos (by omega), Int.toNat_natCast, show a.length = i from by omega]
  | succ m ih =>
    intro o c i h ho h0 h1
    have wa := ha.getD i
    have hP := two_pos s
    have hQ := two_pos (32 - s)
    have hPQ := two_split s hs
    obtain ⟨f1, f2, f3, f4, f5⟩ := shl_step (a := a.getD i 0) hP hQ hPQ h0 h1
    have q0 : 0 ≤ a.getD i 0 / 2 ^ (32 - s) := Int.ediv_nonneg wa.1 (by omega)
    have q1 : a.getD i 0 / 2 ^ (32 - s) < 2 ^ s := div_lt hQ (by rw [hPQ]; omega)
    have q2 := two_le s 32 (by omega)
    have hor : Go.bits .or .u32 (shl .u32 (a.getD i 0) (s : Int)) c = (a.getD i 0 * 2 ^ s + c) % 4294967296 := by
      rw [f2]
      have e1 : shl .u32 (a.getD i 0) (s : Int) = 2 ^ s * (a.getD i 0 % 2 ^ (32 - s)) := by
        unfold shl
        rw [Int.toNat_natCast, show IntKind.bits .u32 = 32 from rfl, Nat.min_eq_left (by omega), IntKind.wrap_u32, f3]
      rw [e1]
      exact Go.bits_join .u32 32 (by decide) wraps_u32 s _ _ f4 (Int.mul_emod_right _ _) (by omega) h0 h1 (by omega)
    have hsh : (shr .u64 (IntKind.u64.wrap (a.getD i 0)) (wrap64 (32 - (s : Int)))) % 4294967296 = (a.getD i 0 * 2 ^ s + c) / 4294967296 := by
      rw [f1, u64_in wa.1 (by omega), wrap64_in (by omega) (by omega)]
      unfold shr
      rw [show (32 - (s : Int)).toNat = 32 - s from by omega, show IntKind.bits .u64 = 64 from rfl, Nat.min_eq_left (by omega)]
      exact Int.emod_eq_of_lt q0 (by omega)
    refine Ev.step (f := fun k => nat_shift.l0 k a (s : Int) (o.set i ((a.getD i 0 * 2 ^ s + c) % 4294967296)) ((a.getD i 0 * 2 ^ s + c) / 4294967296) a (a.length : Int) ((i + 1 : Nat) : Int)) (fun k => ?_) ?_
    · simp only [nat_shift.l0]
      rw [if_pos (by omega), if_pos (by omega), if_pos (by omega), if_pos (by omega), if_pos (by omega), rd_nat, hor, hsh, wrap64_in (n := 32 - (s : Int)) (by omega) (by omega), if_pos (by omega), wrap64_in (by omega) (by omega)]
      rfl
    · simp only [carr]
      have := ih (o.set i ((a.getD i 0 * 2 ^ s + c) % 4294967296)) ((a.getD i 0 * 2 ^ s + c) / 4294967296) (i + 1) (by omega) (by rw [List.length_set]; exact ho) (by omega) (by omega)
      rw [take_set_self o i _ (by omega)] at this
      simpa using this
theorem shift_ev (a : List Int) (ha : W a) (hla : a.length < 1099511627776) (s : Nat) (hs : s < 32) : ∃ r, Ev (fun k => nat_shift.f k a (s : Int)) r ∧ W r ∧ r.length = a.length + 1 ∧ val r = val a * 2 ^ s := by
  have h := shift_l0 a ha hla s hs a.length (List.replicate (a.length + 1) 0) 0 0 (by omega) (by simp) (by omega) (two_pos s)
  have hD := carr_D (B := 4294967296) (by decide) (fun t => a.getD t 0 * 2 ^ s) a.length 0 0
  have hC := carr_val 4294967296 (fun t => a.getD t 0 * 2 ^ s) a.length 0 0
  have hL := carr_len 4294967296 (fun t => a.getD t 0 * 2 ^ s) a.length 0 0
  have e0 : vs 4294967296 (fun t => a.getD t 0 * 2 ^ s) a.length 0 = val a * 2 ^ s := by
    have e1 : (fun t => a.getD t 0 * (2 : Int) ^ s) = fun t => 2 ^ s * a.getD t 0 := by funext t; exact Int.mul_comm _ _
    rw [e1, vs_mul, vs_list _ _ _ _ (by omega), List.drop_zero, vb_val, Int.mul_comm]
  rw [e0, vb_val] at hC
  generalize (carr 4294967296 (fun t => a.getD t 0 * 2 ^ s) a.length 0 0).1 = S at h hD hC hL
  generalize (carr 4294967296 (fun t => a.getD t 0 * 2 ^ s) a.length 0 0).2 = q at h hC
  have hS := W_D.2 hD
  have s0 := val_nonneg hS
  have s1 := val_lt hS
  rw [hL] at s1
  have a0 := val_nonneg ha
  have a1 := val_lt ha
  have p0 := pow_pos a.length
  have t0 := two_pos s
  have t1 := two_le s 31 (by omega)
  have m0 : 0 ≤ val a * 2 ^ s := Int.mul_nonneg a0 (by omega)
  have m1 : val a * 2 ^ s ≤ 4294967296 ^ a.length * 2 ^ s := Int.mul_le_mul_of_nonneg_right (by omega) (by omega)
  have m2 : (4294967296 : Int) ^ a.length * 2 ^ s ≤ 4294967296 ^ a.length * 2 ^ 31 := Int.mul_le_mul_of_nonneg_left t1 (by omega)
  have q0 : 0 ≤ q := by
    rcases Int.lt_or_le q 0 with c | c
    · have : (4294967296 : Int) ^ a.length * (q + 1) ≤ 0 := Int.mul_nonpos_of_nonneg_of_nonpos (by omega) (by omega)
      rw [Int.mul_add] at this
      omega
    · exact c
  have q1 : q < 4294967296 := by
    rcases Int.lt_or_le q 4294967296 with c | c
    · exact c
    · have : (4294967296 : Int) ^ a.length * 4294967296 ≤ 4294967296 ^ a.length * q := Int.mul_le_mul_of_nonneg_left c (by omega)
      omega
  refine ⟨S ++ [q], ?_, hS.append (W.cons q0 q1 W.nil), by simp [hL], ?_⟩
  · unfold nat_shift.f
    rw [wrap64_in (by omega) (by omega)]
    simp only [if_pos (show (0 : Int) ≤ (a.length : Int) + 1 by omega), show ((a.length : Int) + 1).toNat = a.length + 1 from by omega, if_pos (show a.length + 1 ≤ 70368744177664 by omega)]
    simpa using h
  · rw [val_append, hL]
    simp only [val, Int.mul_zero, Int.add_zero]
    omega
/-- The limbs, shifted to the right. -/
def us (P Q : Int) : List Int → List Int
  | [] => []
  | x :: t => (x / P + Q * (t.getD 0 0 % P)) :: us P Q t
theorem us_len (P Q : Int) : ∀ l, (us P Q l).length = l.length
  | [] => rfl
  | _ :: t => by simp [us, us_len P Q t]
theorem us_W {P Q : Int} (hP : 0 < P) (hQ : 0 < Q) (h : P * Q = 4294967296) : ∀ {l : List Int}, W l → W (us P Q l)
  | [], _ => W.nil
  | x :: t, hw => by
    have wx := hw.head
    have wt := (hw.tail).getD 0
    have m0 := Int.emod_nonneg (t.getD 0 0) (show P ≠ 0 by omega)
    have m1 := Int.emod_lt_of_pos (t.getD 0 0) hP
    have d0 : 0 ≤ x / P := Int.ediv_nonneg wx.1 (by omega)
    have d1 : x / P < Q := div_lt hP (by rw [Int.mul_comm]; omega)
    have l0 : 0 ≤ Q * (t.getD 0 0 % P) := Int.mul_nonneg (by omega) m0
    have l1 : Q * (t.getD 0 0 % P + 1) ≤ Q * P := Int.mul_le_mul_of_nonneg_left (by omega) (by omega)
    rw [Int.mul_add, Int.mul_one, Int.mul_comm Q P, h] at l1
    exact W.cons (by omega) (by omega) (us_W hP hQ h hw.tail)
theorem us_val {P Q : Int} (h : P * Q = 4294967296) : ∀ l : List Int, val (us P Q l) * P + l.getD 0 0 % P = val l
  | [] => by simp [us, val]
  | x :: t => by
    have ih := us_val h t
    have e := Int.mul_ediv_add_emod x P
    simp only [us, val, List.getD_cons_zero]
    have k1 : (x / P + Q * (t.getD 0 0 % P) + 4294967296 * val (us P Q t)) * P = P * (x / P) + 4294967296 * (t.getD 0 0 % P) + 4294967296 * (val (us P Q t) * P) := by
      rw [Int.add_mul, Int.add_mul, Int.mul_comm (x / P), Int.mul_comm Q, Int.mul_assoc, Int.mul_comm Q P, h, Int.mul_comm (t.getD 0 0 % P), Int.mul_assoc]
    rw [k1, ← ih]
    omega
theorem us_drop (P Q : Int) (l : List Int) : ∀ i, i < l.length → us P Q (l.drop i) = (l.getD i 0 / P + Q * (l.getD (i + 1) 0 % P)) :: us P Q (l.drop (i + 1)) := by
  intro i hi
  rw [drop_cons l i hi]
  simp only [us]
  congr 3
  simp [List.getD, List.getElem?_drop]
theorem unshift_l0 (a : List Int) (ha : W a) (hla : a.length < 1099511627776) (s : Nat) (hs : s < 32) (m : Nat) : ∀ (o : List Int) (i : Nat), i + m = a.length → o.length = a.length →
    Ev (fun k => nat_unshift.l0 k a (s : Int) o a (a.length : Int) (i : Int)) (o.take i ++ us (2 ^ s) (2 ^ (32 - s)) (a.drop i)) := by
  induction m with
  | zero =>
    intro o i h ho
    rw [List.drop_eq_nil_of_le (by omega), List.take_of_length_le (by omega)]
    refine Ev.step (f := fun _ => some o) (fun k => ?_) (by simp only [us, List.append_nil]; exact Ev.now _)
    simp only [nat_unshift.l0]
    rw [if_neg (by omega)]
  | succ m ih =>
    intro o i h ho
    have wa := ha.getD i
    have wb := ha.getD (i + 1)
    have hP := two_pos s
    have hQ := two_pos (32 - s)
    have hPQ := two_split s hs
    have hQP : (2 : Int) ^ (32 - s) * 2 ^ s = 4294967296 := by rw [Int.mul_comm]; exact hPQ
    obtain ⟨f1, f2, f3, f4, f5⟩ := shl_step (a := a.getD (i + 1) 0) (c := 0) hQ hP hQP (by omega) (by omega)
    have d0 : 0 ≤ a.getD i 0 / 2 ^ s := Int.ediv_nonneg wa.1 (by omega)
    have d1 : a.getD i 0 / 2 ^ s < 2 ^ (32 - s) := div_lt hP (by rw [hQP]; omega)
    have b0 : 0 ≤ a.getD (i + 1) 0 * 2 ^ (32 - s) := Int.mul_nonneg wb.1 (by omega)
    have q2 := two_le (32 - s) 32 (by omega)
    have b1 : a.getD (i + 1) 0 * 2 ^ (32 - s) ≤ 4294967295 * 2 ^ (32 - s) := Int.mul_le_mul_of_nonneg_right (by omega) (by omega)
    have hor : Go.bits .or .u32 (shr .u32 (a.getD i 0) (s : Int)) ((shl .u64 (a.getD (i + 1) 0) (wrap64 (32 - (s : Int)))) % 4294967296) = a.getD i 0 / 2 ^ s + 2 ^ (32 - s) * (a.getD (i + 1) 0 % 2 ^ s) := by
      have e1 : shl .u64 (a.getD (i + 1) 0) (wrap64 (32 - (s : Int))) % 4294967296 = 2 ^ (32 - s) * (a.getD (i + 1) 0 % 2 ^ s) := by
        rw [wrap64_in (by omega) (by omega)]
        unfold shl
        rw [show (32 - (s : Int)).toNat = 32 - s from by omega, show IntKind.bits .u64 = 64 from rfl, Nat.min_eq_left (by omega), u64_in b0 (by omega), f3]
      have e2 : shr .u32 (a.getD i 0) (s : Int) = a.getD i 0 / 2 ^ s := by
        unfold shr
        rw [Int.toNat_natCast, show IntKind.bits .u32 = 32 from rfl, Nat.min_eq_left (by omega)]
      rw [e1, e2, bits_comm, Go.bits_join .u32 32 (by decide) wraps_u32 (32 - s) _ _ f4 (Int.mul_emod_right _ _) (by omega) d0 d1 (by omega), Int.add_comm]
    refine Ev.step (f := fun k => nat_unshift.l0 k a (s : Int) (o.set i (a.getD i 0 / 2 ^ s + 2 ^ (32 - s) * (a.getD (i + 1) 0 % 2 ^ s))) a (a.length : Int) ((i + 1 : Nat) : Int)) (fun k => ?_) ?_
    · simp only [nat_unshift.l0]
      rw [if_pos (by omega), if_pos (by omega), if_pos (by omega), if_pos (by omega), wrap64_in (n := (i : Int) + 1) (by omega) (by omega), show (i : Int) + 1 = ((i + 1 : Nat) : Int) from by omega, at_eq a ha (i + 1), Option.bind_some, rd_nat, hor, wrap64_in (n := 32 - (s : Int)) (by omega) (by omega), if_pos (by omega), if_pos (by omega)]
      rfl
    · have := ih (o.set i (a.getD i 0 / 2 ^ s + 2 ^ (32 - s) * (a.getD (i + 1) 0 % 2 ^ s))) (i + 1) (by omega) (by rw [List.length_set]; exact ho)
      rw [take_set_self o i _ (by omega)] at this
      rw [us_drop _ _ a i (by omega)]
      simpa using this
theorem unshift_ev (a : List Int) (ha : W a) (hla : a.length < 1099511627776) (s : Nat) (hs : s < 32) : ∃ r, Ev (fun k => nat_unshift.f k a (s : Int)) r ∧ W r ∧ r.length = a.length ∧ val r = val a / 2 ^ s := by
  refine ⟨us (2 ^ s) (2 ^ (32 - s)) a, ?_, us_W (two_pos _) (two_pos _) (two_split s hs) ha, us_len _ _ _, ?_⟩
  · unfold nat_unshift.f
    simp only [if_pos (show (0 : Int) ≤ (a.length : Int) by omega), Int.toNat_natCast, if_pos (show a.length ≤ 70368744177664 by omega)]
    simpa using unshift_l0 a ha hla s hs a.length (List.replicate a.length 0) 0 (by omega) (by simp)
  · have h := us_val (two_split s hs) a
    have t0 := two_pos s
    have m0 := Int.emod_nonneg (a.getD 0 0) (show (2 : Int) ^ s ≠ 0 by omega)
    have m1 := Int.emod_lt_of_pos (a.getD 0 0) t0
    rw [← h, Int.add_comm, Int.add_mul_ediv_right _ _ (by omega), Int.ediv_eq_zero_of_lt m0 m1, Int.zero_add]
end Go.Proofs.YtmndbhgbngkakaaDoor.F
end
section
/- Division: how often (a guess), away and back. No condition beyond the lists' lengths. -/
namespace Go.Proofs.YtmndbhgbngkakaaDoor.F

set_option linter.all false
open Go.RowKit Go.Proofs.YtmndbhgbngkakaaDoor.K Go.Proofs.YtmndbhgbngkakaaDoorW.PrintWords Go.Proofs.YtmndbhgbngkakaaDoorW.PrintLast Go.Proofs.YtmndbhgbngkakaaDoorW.PrintMore Go.Proofs.YtmndbhgbngkakaaDoor.M

theorem guess_l0 (a b : List Int) (ha : W a) (hb : W b) (k n : Nat) (hn : b.length = n) (h2 : 2 ≤ n) (hk : k + n < a.length) (hla : a.length < 1099511627776) (V1 V2 U2 top G : Int)
    (e1 : b.getD (n - 1) 0 = V1) (e2 : b.getD (n - 2) 0 = V2) (e3 : a.getD (k + n - 2) 0 = U2) (hV : 2147483648 ≤ V1) (ht : top ≤ 4294967296 * V1 + 4294967295)
    (hG0 : 0 ≤ G) (hG3 : G ≤ 4294967295) (hG1 : G * V2 ≤ (top - G * V1) * 4294967296 + U2) (hG2 : ∀ q, q ≤ 4294967295 → G < q → ¬ (q * V2 ≤ (top - q * V1) * 4294967296 + U2)) (m : Nat) :
    ∀ (q r : Int), q = G + m → r = top - q * V1 → 0 ≤ r → r < 4294967296 → q ≤ 4294967297 → Ev (fun f => nat_guess.l0 f a b (k : Int) (n : Int) q r) G := by
  have w1 := hb.getD (n - 1)
  have w2 := hb.getD (n - 2)
  have w3 := ha.getD (k + n - 2)
  rw [e1] at w1
  rw [e2] at w2
  rw [e3] at w3
  -- the test
  have test : ∀ q r : Int, 0 ≤ q → q ≤ 4294967297 → 0 ≤ r → r < 4294967296 → ∀ t : Int, Ev (fun f => nat_guess.j1 f a b (k : Int) (n : Int) q r (decide (q > 4294967295 ∨ q * V2 > r * 4294967296 + U2))) t → Ev (fun f => nat_guess.l0 f a b (k : Int) (n : Int) q r) t := by
    intro q r q0 q1 r0 r1 t h
    have m0 : 0 ≤ q * V2 := Int.mul_nonneg q0 w2.1
    have m1 : q * V2 ≤ 4294967297 * V2 := Int.mul_le_mul_of_nonneg_right q1 w2.1
    have hj := join64 (a := r) (b := U2) r0 r1 w3.1 w3.2
    refine Ev.step (fun f => nat_guess.l0.eq_2 _ _ _ _ _ _ f) ?_
    have i1 : wrap64 ((n : Int) - 2) = ((n - 2 : Nat) : Int) := by rw [wrap64_in (by omega) (by omega)]; omega
    have i2 : wrap64 (wrap64 ((k : Int) + n) - 2) = ((k + n - 2 : Nat) : Int) := by rw [wrap64_in (n := (k : Int) + n) (by omega) (by omega), wrap64_in (by omega) (by omega)]; omega
    rw [i1, i2, rd_nat, rd_nat, e2, e3, hj, u64_in (n := V2) (by omega) (by omega), u64_in (n := q * V2) m0 (by omega)]
    by_cases c : q > 4294967295
    · simp only [if_pos c]
      simpa [c] using h
    · simp only [if_neg c, if_pos (show (0 : Int) ≤ ((n - 2 : Nat) : Int) by omega), if_pos (show ((n - 2 : Nat) : Int) < (b.length : Int) by omega), if_pos (show (0 : Int) ≤ ((k + n - 2 : Nat) : Int) by omega), if_pos (show ((k + n - 2 : Nat) : Int) < (a.length : Int) by omega)]
      simpa [c] using h
  induction m with
  | zero =>
    intro q r hq hr r0 r1 q1
    have hq' : q = G := by omega
    subst hq'
    refine test q r hG0 q1 r0 r1 _ ?_
    rw [← hr] at hG1
    rw [decide_eq_false (by omega)]
    exact Ev.step (f := fun _ => some q) (fun f => by simp only [nat_guess.j1, Bool.false_eq_true, if_false]) (Ev.now _)
  | succ m ih =>
    intro q r hq hr r0 r1 q1
    refine test q r (by omega) q1 r0 r1 _ ?_
    have c : q > 4294967295 ∨ q * V2 > r * 4294967296 + U2 := by
      rcases Int.lt_or_le 4294967295 q with c | c
      · exact Or.inl c
      · have := hG2 q c (by omega)
        rw [← hr] at this
        exact Or.inr (by omega)
    rw [decide_eq_true c]
    have hr' : r + V1 = top - (q - 1) * V1 := by rw [Int.sub_mul]; omega
    have i1 : wrap64 ((n : Int) - 1) = ((n - 1 : Nat) : Int) := by rw [wrap64_in (by omega) (by omega)]; omega
    refine Ev.step (fun f => nat_guess.j1.eq_2 _ _ _ _ _ _ _ f) ?_
    rw [i1, rd_nat, e1, u64_in (n := V1) (by omega) (by omega), u64_in (n := r + V1) (by omega) (by omega), u64_in (n := q - 1) (by omega) (by omega)]
    simp only [if_true, if_pos (show (0 : Int) ≤ ((n - 1 : Nat) : Int) by omega), if_pos (show ((n - 1 : Nat) : Int) < (b.length : Int) by omega)]
    by_cases c2 : r + V1 > 4294967295
    · simp only [if_pos c2]
      have hq2 : q - 1 ≤ 4294967295 := by
        rcases Int.lt_or_le 4294967295 (q - 1) with c3 | c3
        · have : 4294967296 * V1 ≤ (q - 1) * V1 := Int.mul_le_mul_of_nonneg_right (by omega) (by omega)
          omega
        · exact c3
      have e : q - 1 = G := by
        rcases Int.lt_or_le G (q - 1) with c4 | c4
        · exfalso
          refine hG2 (q - 1) hq2 c4 ?_
          rw [← hr']
          have m1 : (q - 1) * V2 ≤ 4294967295 * V2 := Int.mul_le_mul_of_nonneg_right hq2 w2.1
          omega
        · omega
      rw [e]
      exact Ev.now _
    · simp only [if_neg c2]
      exact ih (q - 1) (r + V1) (by omega) hr' (by omega) (by omega) (by omega)
theorem w_pred {m : Nat} (h : 1 ≤ m) (hm : m < 4611686018427387904) : wrap64 ((m : Int) - 1) = ((m - 1 : Nat) : Int) := by rw [wrap64_in (by omega) (by omega)]; omega
theorem w_add {m n : Nat} (hm : m < 4611686018427387904) (hn : n < 4611686018427387904) : wrap64 ((m : Int) + (n : Int)) = ((m + n : Nat) : Int) := by rw [wrap64_in (by omega) (by omega)]; omega
theorem w_succ {m : Nat} (hm : m < 4611686018427387904) : wrap64 ((m : Int) + 1) = ((m + 1 : Nat) : Int) := by rw [wrap64_in (by omega) (by omega)]; omega
theorem n_nn (m : Nat) : (0 : Int) ≤ ((m : Nat) : Int) := Int.natCast_nonneg m
theorem n_lt {m n : Nat} (h : m < n) : ((m : Nat) : Int) < (n : Int) := Int.ofNat_lt.2 h
theorem guess_num (top V1 V2 U2 : Int) (hV : 2147483648 ≤ V1) (w2 : 0 ≤ V2 ∧ V2 < 4294967296) (u2 : 0 ≤ U2 ∧ U2 < 4294967296) (ht0 : 0 ≤ top) :
    ∃ G, 0 ≤ G ∧ G ≤ 4294967295 ∧ G * (V1 * 4294967296 + V2) ≤ top * 4294967296 + U2 ∧ (∀ q, q ≤ 4294967295 → q * (V1 * 4294967296 + V2) ≤ top * 4294967296 + U2 → q ≤ G) := by
  have hpos : 0 < V1 * 4294967296 + V2 := by omega
  have d0 : 0 ≤ (top * 4294967296 + U2) / (V1 * 4294967296 + V2) := Int.ediv_nonneg (by omega) (by omega)
  have d1 := Int.ediv_mul_le (top * 4294967296 + U2) (show V1 * 4294967296 + V2 ≠ 0 by omega)
  by_cases c : (top * 4294967296 + U2) / (V1 * 4294967296 + V2) ≤ 4294967295
  · exact ⟨_, d0, c, d1, fun q _ hq => (Int.le_ediv_iff_mul_le hpos).2 hq⟩
  · refine ⟨4294967295, by omega, by omega, ?_, fun q hq _ => hq⟩
    have : 4294967295 * (V1 * 4294967296 + V2) ≤ (top * 4294967296 + U2) / (V1 * 4294967296 + V2) * (V1 * 4294967296 + V2) := Int.mul_le_mul_of_nonneg_right (by omega) (by omega)
    omega
theorem guess_ev (a b : List Int) (ha : W a) (hb : W b) (k n : Nat) (hn : b.length = n) (h2 : 2 ≤ n) (hk : k + n < a.length) (hla : a.length < 1099511627776) (V1 V2 U0 U1 U2 : Int)
    (e1 : b.getD (n - 1) 0 = V1) (e2 : b.getD (n - 2) 0 = V2) (e3 : a.getD (k + n) 0 = U0) (e4 : a.getD (k + n - 1) 0 = U1) (e5 : a.getD (k + n - 2) 0 = U2)
    (hV : 2147483648 ≤ V1) (hU : U0 ≤ V1) :
    ∃ G, Ev (fun f => nat_guess.f f a b (k : Int)) G ∧ 0 ≤ G ∧ G ≤ 4294967295 ∧
      G * (V1 * 4294967296 + V2) ≤ (U0 * 4294967296 + U1) * 4294967296 + U2 ∧
      ∀ q, q ≤ 4294967295 → q * (V1 * 4294967296 + V2) ≤ (U0 * 4294967296 + U1) * 4294967296 + U2 → q ≤ G := by
  have i0 : wrap64 ((k : Int) + (n : Int)) = ((k + n : Nat) : Int) := w_add (by clear e1 e2 e3 e4 e5; omega) (by clear e1 e2 e3 e4 e5; omega)
  have i1 : wrap64 (((k + n : Nat) : Int) - 1) = ((k + n - 1 : Nat) : Int) := w_pred (by clear e1 e2 e3 e4 e5; omega) (by clear e1 e2 e3 e4 e5; omega)
  have i2 : wrap64 ((n : Int) - 1) = ((n - 1 : Nat) : Int) := w_pred (by clear e1 e2 e3 e4 e5; omega) (by clear e1 e2 e3 e4 e5; omega)
  have c0 : (0 : Int) ≤ ((k + n : Nat) : Int) := n_nn _
  have c1 : ((k + n : Nat) : Int) < (a.length : Int) := n_lt hk
  have c2 : (0 : Int) ≤ ((k + n - 1 : Nat) : Int) := n_nn _
  have c3 : ((k + n - 1 : Nat) : Int) < (a.length : Int) := n_lt (by clear e1 e2 e3 e4 e5; omega)
  have c4 : (0 : Int) ≤ ((n - 1 : Nat) : Int) := n_nn _
  have c5 : ((n - 1 : Nat) : Int) < (n : Int) := n_lt (by clear e1 e2 e3 e4 e5; omega)
  have w1 := hb.getD (n - 1)
  have w2 := hb.getD (n - 2)
  have u0 := ha.getD (k + n)
  have u1 := ha.getD (k + n - 1)
  have u2 := ha.getD (k + n - 2)
  rw [e1] at w1
  rw [e2] at w2
  rw [e3] at u0
  rw [e4] at u1
  rw [e5] at u2
  have hj := join64 (a := U0) (b := U1) u0.1 u0.2 u1.1 u1.2
  obtain ⟨top, hT⟩ : ∃ top, top = U0 * 4294967296 + U1 := ⟨_, rfl⟩
  rw [← hT] at hj ⊢
  have ht0 : 0 ≤ top := by omega
  have ht1 : top ≤ 4294967296 * V1 + 4294967295 := by omega
  have cv : ∀ q : Int, q * V2 ≤ (top - q * V1) * 4294967296 + U2 ↔ q * (V1 * 4294967296 + V2) ≤ top * 4294967296 + U2 := fun q => by
    rw [Int.mul_add, ← Int.mul_assoc, Int.sub_mul]; omega
  obtain ⟨G, g0, g1, g2, g3⟩ := guess_num top V1 V2 U2 hV w2 u2 ht0
  refine ⟨G, ?_, g0, g1, g2, g3⟩
  have q0 : 0 ≤ top / V1 := Int.ediv_nonneg ht0 (by omega)
  have r0 := Int.emod_nonneg top (show V1 ≠ 0 by omega)
  have r1 := Int.emod_lt_of_pos top (show 0 < V1 by omega)
  have hd := Int.mul_ediv_add_emod top V1
  have q1 : top / V1 < 4294967298 := div_lt (by omega) (by omega)
  have hGq : G ≤ top / V1 := by
    refine (Int.le_ediv_iff_mul_le (by omega)).2 ?_
    rcases Int.lt_or_le top (G * V1) with c | c
    · have := (cv G).2 g2
      have m0 : 0 ≤ G * V2 := Int.mul_nonneg g0 w2.1
      omega
    · exact c
  have hr : top % V1 = top - top / V1 * V1 := by rw [Int.mul_comm]; omega
  have L := guess_l0 a b ha hb k n hn h2 hk hla V1 V2 U2 top G e1 e2 e5 hV ht1 g0 g1 ((cv G).2 g2) (fun q c1 c2 c3 => by have := g3 q c1 ((cv q).1 c3); omega) (top / V1 - G).toNat (top / V1) (top % V1) (by omega) hr r0 (by omega) (by omega)
  have i3 : IntKind.u64.wrap U0 = U0 := u64_in u0.1 (by omega)
  have i4 : IntKind.u64.wrap V1 = V1 := u64_in w1.1 (by omega)
  have i5 : IntKind.u64.wrap (Int.tdiv top V1) = top / V1 := by rw [tdiv_pos ht0, u64_in q0 (by omega)]
  have i6 : Int.tmod top V1 = top % V1 := tmod_pos ht0
  have c6 : ¬ V1 = 0 := by omega
  unfold nat_guess.f
  rw [hn]
  simp only [i0, i1, i2, rd_nat, e1, e3, e4, i3, hj, i4, i5, i6, if_pos c0, if_pos c1, if_pos c2, if_pos c3, if_pos c4, if_pos c5, if_neg c6]
  exact L
end Go.Proofs.YtmndbhgbngkakaaDoor.F
end
section
/- Division: away at a place, and back. No condition beyond the lists' lengths. -/
namespace Go.Proofs.YtmndbhgbngkakaaDoor.F

set_option linter.all false
open Go.RowKit Go.Proofs.YtmndbhgbngkakaaDoor.K Go.Proofs.YtmndbhgbngkakaaDoorW.PrintWords Go.Proofs.YtmndbhgbngkakaaDoorW.PrintLast Go.Proofs.YtmndbhgbngkakaaDoorW.PrintMore Go.Proofs.YtmndbhgbngkakaaDoor.M

theorem add_ne {k i t : Nat} (h : i + 1 ≤ t) : k + i ≠ k + t := by omega
theorem idx {k i n m L b : Nat} (h : i + (m + 1) = n) (hb : b = n) (hk : k + n < L) (hL : L < 1099511627776) :
    k + i < L ∧ i + 1 ≤ n ∧ i + 1 + m = n ∧ k + i < k + n + 1 ∧ i < b ∧ wrap64 ((k : Int) + (i : Int)) = ((k + i : Nat) : Int) ∧ wrap64 ((i : Int) + 1) = ((i + 1 : Nat) : Int) ∧ (0 : Int) ≤ ((k + i : Nat) : Int) ∧ ((k + i : Nat) : Int) < (L : Int) ∧ (i : Int) < (n : Int) ∧ (0 : Int) ≤ (i : Int) ∧ (i : Int) < (b : Int) :=
  ⟨by omega, by omega, by omega, by omega, by omega, w_add (by omega) (by omega), w_succ (by omega), n_nn _, n_lt (by omega), n_lt (by omega), n_nn _, n_lt (by omega)⟩
/-- One limb, less so many times another, and what is owed. -/
theorem take_num {x y q c d : Int} (x0 : 0 ≤ x) (x1 : x < 4294967296) (y0 : 0 ≤ y) (y1 : y < 4294967296) (q0 : 0 ≤ q) (q1 : q < 4294967296) (c0 : 0 ≤ c) (c1 : c < 4294967296) (d0 : 0 ≤ d) (d1 : d ≤ 1) :
    ∃ O N, IntKind.u64.wrap (c + IntKind.u64.wrap (q * IntKind.u64.wrap y)) = O ∧ IntKind.u64.wrap (IntKind.u64.wrap (IntKind.u64.wrap x - O % 4294967296) - d) = N ∧ N % 4294967296 = (x - q * y + -(c + d)) % 4294967296 ∧
      0 ≤ O / 4294967296 ∧ O / 4294967296 < 4294967296 ∧ 0 ≤ N / 9223372036854775808 ∧ N / 9223372036854775808 ≤ 1 ∧ (x - q * y + -(c + d)) / 4294967296 = -(O / 4294967296 + N / 9223372036854775808) := by
  have hm := mul_lt_sq q0 q1 y0 y1
  obtain ⟨z, hz⟩ : ∃ z, z = q * y := ⟨_, rfl⟩
  rw [← hz] at hm ⊢
  refine ⟨c + z, _, ?_, rfl, ?_⟩
  · rw [u64_in y0 (by omega), ← hz, u64_in hm.1 (by omega), u64_in (by omega) (by omega)]
  · rw [u64_in x0 (by omega), IntKind.wrap_u64, IntKind.wrap_u64]
    omega
theorem take_end {x c d : Int} (x0 : 0 ≤ x) (x1 : x < 4294967296) (c0 : 0 ≤ c) (c1 : c < 4294967296) (d0 : 0 ≤ d) (d1 : d ≤ 1) :
    ∃ N, IntKind.u64.wrap (IntKind.u64.wrap (IntKind.u64.wrap x - c) - d) = N ∧ N % 4294967296 = (x + -(c + d)) % 4294967296 ∧ (N / 9223372036854775808 != 0) = decide (x + -(c + d) < 0) := by
  refine ⟨_, rfl, ?_, ?_⟩
  · rw [u64_in x0 (by omega), IntKind.wrap_u64, IntKind.wrap_u64]
    omega
  · rw [u64_in x0 (by omega), IntKind.wrap_u64, IntKind.wrap_u64]
    by_cases h : x + -(c + d) < 0
    · rw [decide_eq_true h]
      exact bne_iff_ne.2 (by omega)
    · rw [decide_eq_false h]
      exact bne_eq_false_iff_eq.2 (by omega)
theorem take_l0 (b : List Int) (hb : W b) (q : Int) (q0 : 0 ≤ q) (q1 : q < 4294967296) (k n : Nat) (hn : b.length = n) (m : Nat) :
    ∀ (a : List Int) (c d : Int) (i : Nat), i + m = n → W a → k + n < a.length → a.length < 1099511627776 → 0 ≤ c → c < 4294967296 → 0 ≤ d → d ≤ 1 →
    Ev (fun f => nat_take.l0 f a b (k : Int) q c d (n : Int) (i : Int))
      (decide (a.getD (k + n) 0 + (carr 4294967296 (fun t => a.getD (k + t) 0 - q * b.getD t 0) m (-(c + d)) i).2 < 0),
       a.take (k + i) ++ (carr 4294967296 (fun t => a.getD (k + t) 0 - q * b.getD t 0) m (-(c + d)) i).1 ++ [(a.getD (k + n) 0 + (carr 4294967296 (fun t => a.getD (k + t) 0 - q * b.getD t 0) m (-(c + d)) i).2) % 4294967296] ++ a.drop (k + n + 1)) := by
  induction m with
  | zero =>
    intro a c d i h ha hk hla c0 c1 d0 d1
    have hi : i = n := by omega
    subst hi
    have wx := ha.getD (k + i)
    obtain ⟨N, e1, e2, e3⟩ := take_end wx.1 wx.2 c0 c1 d0 d1
    have i0 : wrap64 ((k : Int) + (i : Int)) = ((k + i : Nat) : Int) := w_add (by omega) (by omega)
    have p0 := n_nn (k + i)
    have p1 := n_lt hk
    have p2 : ¬ ((i : Nat) : Int) < (i : Int) := Int.lt_irrefl _
    refine Ev.step (f := fun _ => some (decide (a.getD (k + i) 0 + -(c + d) < 0), a.set (k + i) ((a.getD (k + i) 0 + -(c + d)) % 4294967296))) (fun f => ?_) ?_
    · rw [nat_take.l0.eq_2]
      simp only [if_neg p2, hn, i0, rd_nat, e1, e2, e3, if_pos p0, if_pos p1, Int.toNat_natCast]
    · simp only [carr, List.append_nil]
      rw [List.set_eq_take_append_cons_drop, if_pos hk]
      simp only [List.append_assoc, List.singleton_append]
      exact Ev.now _
  | succ m ih =>
    intro a c d i h ha hk hla c0 c1 d0 d1
    have wb := hb.getD i
    have wx := ha.getD (k + i)
    obtain ⟨hki, hin, him, hkd, hib, i0, i1, p0, p1, p2, p3, p4⟩ := idx h hn hk hla
    obtain ⟨O, N, e1, e2, e3, o0, o1, n0, n1, e4⟩ := take_num wx.1 wx.2 wb.1 wb.2 q0 q1 c0 c1 d0 d1
    obtain ⟨v, hv⟩ : ∃ v, v = a.getD (k + i) 0 - q * b.getD i 0 + -(c + d) := ⟨_, rfl⟩
    rw [← hv] at e3 e4
    refine Ev.step (f := fun f => nat_take.l0 f (a.set (k + i) (v % 4294967296)) b (k : Int) q (O / 4294967296) (N / 9223372036854775808) (n : Int) ((i + 1 : Nat) : Int)) (fun f => ?_) ?_
    · rw [nat_take.l0.eq_2]
      simp only [if_pos p2, if_pos p3, if_pos p4, i0, rd_nat, e1, e2, e3, if_pos p0, if_pos p1, Int.toNat_natCast, i1]
    · have L := ih (a.set (k + i) (v % 4294967296)) (O / 4294967296) (N / 9223372036854775808) (i + 1) him (ha.set _ (Int.emod_nonneg v (by decide)) (Int.emod_lt_of_pos v (by decide))) (by rw [List.length_set]; exact hk) (by rw [List.length_set]; exact hla) o0 o1 n0 n1
      have ec : ∀ t, i + 1 ≤ t → (a.set (k + i) (v % 4294967296)).getD (k + t) 0 - q * b.getD t 0 = a.getD (k + t) 0 - q * b.getD t 0 := fun t ht => by
        rw [M.getD_set_ne _ _ _ _ (add_ne ht)]
      rw [carr_congr 4294967296 m _ _ ec, M.getD_set_ne _ (k + i) (k + n) _ (add_ne hin), show k + (i + 1) = k + i + 1 from rfl, take_set_self _ _ _ hki, List.drop_set_of_lt hkd] at L
      simp only [carr, ← hv, e4]
      simpa [List.append_assoc] using L
theorem take_ev (a b : List Int) (ha : W a) (hb : W b) (q : Int) (q0 : 0 ≤ q) (q1 : q < 4294967296) (k n : Nat) (hn : b.length = n) (hk : k + n < a.length) (hla : a.length < 1099511627776) :
    Ev (fun f => nat_take.f f a b (k : Int) q)
      (decide (a.getD (k + n) 0 + (carr 4294967296 (fun t => a.getD (k + t) 0 - q * b.getD t 0) n 0 0).2 < 0),
       a.take k ++ (carr 4294967296 (fun t => a.getD (k + t) 0 - q * b.getD t 0) n 0 0).1 ++ [(a.getD (k + n) 0 + (carr 4294967296 (fun t => a.getD (k + t) 0 - q * b.getD t 0) n 0 0).2) % 4294967296] ++ a.drop (k + n + 1)) := by
  have L := take_l0 b hb q q0 q1 k n hn n a 0 0 0 (by omega) ha hk hla (by omega) (by omega) (by omega) (by omega)
  unfold nat_take.f
  rw [hn]
  exact L
theorem give_num {x y c : Int} (x0 : 0 ≤ x) (x1 : x < 4294967296) (y0 : 0 ≤ y) (y1 : y < 4294967296) (c0 : 0 ≤ c) (c1 : c ≤ 1) :
    IntKind.u64.wrap (c + IntKind.u64.wrap (IntKind.u64.wrap x + IntKind.u64.wrap y)) = x + y + c ∧ 0 ≤ (x + y + c) / 4294967296 ∧ (x + y + c) / 4294967296 ≤ 1 ∧ 0 ≤ (x + y + c) % 4294967296 ∧ (x + y + c) % 4294967296 < 4294967296 := by
  rw [u64_in x0 (by omega), u64_in y0 (by omega), u64_in (n := x + y) (by omega) (by omega), u64_in (by omega) (by omega)]
  omega
theorem give_l0 (b : List Int) (hb : W b) (k n : Nat) (hn : b.length = n) (m : Nat) :
    ∀ (a : List Int) (c : Int) (i : Nat), i + m = n → W a → k + n < a.length → a.length < 1099511627776 → 0 ≤ c → c ≤ 1 →
    Ev (fun f => nat_give.l0 f a b (k : Int) c (n : Int) (i : Int))
      (a.take (k + i) ++ (carr 4294967296 (fun t => a.getD (k + t) 0 + b.getD t 0) m c i).1 ++ [(a.getD (k + n) 0 + (carr 4294967296 (fun t => a.getD (k + t) 0 + b.getD t 0) m c i).2) % 4294967296] ++ a.drop (k + n + 1)) := by
  induction m with
  | zero =>
    intro a c i h ha hk hla c0 c1
    have hi : i = n := by omega
    subst hi
    have wx := ha.getD (k + i)
    have i0 : wrap64 ((k : Int) + (i : Int)) = ((k + i : Nat) : Int) := w_add (by omega) (by omega)
    have p0 := n_nn (k + i)
    have p1 := n_lt hk
    have p2 : ¬ ((i : Nat) : Int) < (i : Int) := Int.lt_irrefl _
    have e1 : c % 4294967296 = c := by omega
    refine Ev.step (f := fun _ => some (a.set (k + i) ((a.getD (k + i) 0 + c) % 4294967296))) (fun f => ?_) ?_
    · rw [nat_give.l0.eq_2]
      simp only [if_neg p2, hn, i0, rd_nat, e1, if_pos p0, if_pos p1, Int.toNat_natCast]
    · simp only [carr, List.append_nil]
      rw [List.set_eq_take_append_cons_drop, if_pos hk]
      simp only [List.append_assoc, List.singleton_append]
      exact Ev.now _
  | succ m ih =>
    intro a c i h ha hk hla c0 c1
    have wb := hb.getD i
    have wx := ha.getD (k + i)
    obtain ⟨hki, hin, him, hkd, hib, i0, i1, p0, p1, p2, p3, p4⟩ := idx h hn hk hla
    obtain ⟨e1, o0, o1, n0, n1⟩ := give_num wx.1 wx.2 wb.1 wb.2 c0 c1
    obtain ⟨v, hv⟩ : ∃ v, v = a.getD (k + i) 0 + b.getD i 0 + c := ⟨_, rfl⟩
    rw [← hv] at e1 o0 o1 n0 n1
    refine Ev.step (f := fun f => nat_give.l0 f (a.set (k + i) (v % 4294967296)) b (k : Int) (v / 4294967296) (n : Int) ((i + 1 : Nat) : Int)) (fun f => ?_) ?_
    · rw [nat_give.l0.eq_2]
      simp only [if_pos p2, if_pos p3, if_pos p4, i0, rd_nat, e1, if_pos p0, if_pos p1, Int.toNat_natCast, i1]
    · have L := ih (a.set (k + i) (v % 4294967296)) (v / 4294967296) (i + 1) him (ha.set _ n0 n1) (by rw [List.length_set]; exact hk) (by rw [List.length_set]; exact hla) o0 o1
      have ec : ∀ t, i + 1 ≤ t → (a.set (k + i) (v % 4294967296)).getD (k + t) 0 + b.getD t 0 = a.getD (k + t) 0 + b.getD t 0 := fun t ht => by
        rw [M.getD_set_ne _ _ _ _ (add_ne ht)]
      rw [carr_congr 4294967296 m _ _ ec, M.getD_set_ne _ (k + i) (k + n) _ (add_ne hin), show k + (i + 1) = k + i + 1 from rfl, take_set_self _ _ _ hki, List.drop_set_of_lt hkd] at L
      simp only [carr]
      rw [← hv]
      simpa [List.append_assoc] using L
theorem give_ev (a b : List Int) (ha : W a) (hb : W b) (k n : Nat) (hn : b.length = n) (hk : k + n < a.length) (hla : a.length < 1099511627776) :
    Ev (fun f => nat_give.f f a b (k : Int))
      (a.take k ++ (carr 4294967296 (fun t => a.getD (k + t) 0 + b.getD t 0) n 0 0).1 ++ [(a.getD (k + n) 0 + (carr 4294967296 (fun t => a.getD (k + t) 0 + b.getD t 0) n 0 0).2) % 4294967296] ++ a.drop (k + n + 1)) := by
  have L := give_l0 b hb k n hn n a 0 0 (by omega) ha hk hla (by omega) (by omega)
  unfold nat_give.f
  rw [hn]
  exact L
end Go.Proofs.YtmndbhgbngkakaaDoor.F
end
section
/- Division: one step. No condition beyond the lists' lengths. -/
namespace Go.Proofs.YtmndbhgbngkakaaDoor.F

set_option linter.all false
open Go.RowKit Go.Proofs.YtmndbhgbngkakaaDoor.K Go.Proofs.YtmndbhgbngkakaaDoorW.PrintWords Go.Proofs.YtmndbhgbngkakaaDoorW.PrintLast Go.Proofs.YtmndbhgbngkakaaDoorW.PrintMore Go.Proofs.YtmndbhgbngkakaaDoor.M

theorem two_cases {s P w R : Int} (s0 : 0 ≤ s) (s1 : s < P) (h : s + P * w = R) : (0 ≤ R → R < P → w = 0 ∧ s = R) ∧ (R < 0 → -P ≤ R → w = -1 ∧ s = R + P) := by
  have hP : 0 < P := by omega
  rcases Int.lt_or_le w (-1) with c | c
  · have : P * w ≤ P * (-2) := Int.mul_le_mul_of_nonneg_left (by omega) (by omega)
    constructor <;> intro _ _ <;> omega
  · rcases Int.lt_or_le 0 w with c2 | c2
    · have : P * 1 ≤ P * w := Int.mul_le_mul_of_nonneg_left (by omega) (by omega)
      constructor <;> intro _ _ <;> omega
    · rcases (show w = 0 ∨ w = -1 by omega) with rfl | rfl
      · constructor <;> intro _ _ <;> omega
      · constructor <;> intro _ _ <;> omega
theorem guess_bounds {P lx lv X V U W' G : Int} (hP : 0 < P) (lx0 : 0 ≤ lx) (lx1 : lx < P) (lv0 : 0 ≤ lv) (lv1 : lv < P) (hX : X = lx + P * U) (hV : V = lv + P * W') (hW : 4294967296 ≤ W') (hXV : X < 4294967296 * V) (hU : 0 ≤ U)
    (g0 : 0 ≤ G) (g1 : G ≤ 4294967295) (g2 : G * W' ≤ U) (g3 : ∀ q, q ≤ 4294967295 → q * W' ≤ U → q ≤ G) : 0 ≤ X / V ∧ X / V ≤ G ∧ G ≤ X / V + 1 ∧ X / V ≤ 4294967295 := by
  have w0 : P * 4294967296 ≤ P * W' := Int.mul_le_mul_of_nonneg_left hW (by omega)
  have u0 : 0 ≤ P * U := Int.mul_nonneg (by omega) hU
  have hV0 : 0 < V := by omega
  have q0 : 0 ≤ X / V := Int.ediv_nonneg (by omega) (by omega)
  have q1 : X / V < 4294967296 := div_lt hV0 hXV
  have q2 := Int.ediv_mul_le X (show V ≠ 0 by omega)
  refine ⟨q0, g3 _ (by omega) ?_, ?_, by omega⟩
  · have e1 : X / V * (P * W') ≤ X / V * V := Int.mul_le_mul_of_nonneg_left (by omega) q0
    have e2 : X / V * (P * W') = P * (X / V * W') := by rw [← Int.mul_assoc, Int.mul_comm (X / V) P, Int.mul_assoc]
    have e3 : P * (X / V * W') < P * (U + 1) := by rw [Int.mul_add]; omega
    have := Int.lt_of_mul_lt_mul_left e3 (by omega)
    omega
  · have e1 : G * lv ≤ 4294967295 * lv := Int.mul_le_mul_of_nonneg_right g1 lv0
    have e2 : P * (G * W') ≤ P * U := Int.mul_le_mul_of_nonneg_left g2 (by omega)
    have e3 : G * V = G * lv + P * (G * W') := by rw [hV, Int.mul_add, ← Int.mul_assoc G P, Int.mul_comm G P, Int.mul_assoc P]
    have e4 : (G - 1) * V ≤ X := by rw [Int.sub_mul]; omega
    have := (Int.le_ediv_iff_mul_le hV0).2 e4
    omega
theorem parts (p S r : List Int) (z : Int) (k n : Nat) (hp : p.length = k) (hS : S.length = n) :
    (p ++ S ++ [z] ++ r).take k = p ∧ (p ++ S ++ [z] ++ r).drop k = S ++ z :: r ∧ (p ++ S ++ [z] ++ r).getD (k + n) 0 = z ∧ (p ++ S ++ [z] ++ r).drop (k + n + 1) = r ∧ ((p ++ S ++ [z] ++ r).drop k).take n = S := by
  have e : p ++ S ++ [z] ++ r = p ++ (S ++ z :: r) := by simp
  have e2 : p ++ S ++ [z] ++ r = (p ++ S ++ [z]) ++ r := rfl
  have l2 : (p ++ S ++ [z]).length = k + n + 1 := by simp [hp, hS]; omega
  refine ⟨?_, ?_, ?_, ?_, ?_⟩
  · rw [e, ← hp, List.take_left]
  · rw [e, ← hp, List.drop_left]
  · rw [e, M.getD_append_right _ _ _ (by omega), M.getD_append_right _ _ _ (by omega)]
    rw [show k + n - p.length - S.length = 0 from by omega]
    rfl
  · rw [← l2, List.drop_left]
  · rw [e, ← hp, List.drop_left, ← hS, List.take_left]
theorem val_split (l : List Int) (k : Nat) (h : k ≤ l.length) : val l = val (l.take k) + 4294967296 ^ k * val (l.drop k) := by
  have := val_append (l.take k) (l.drop k)
  rw [List.take_append_drop, List.length_take, Nat.min_eq_left h] at this
  exact this
theorem val_cons' (l : List Int) (k : Nat) (h : k < l.length) : val (l.drop k) = l.getD k 0 + 4294967296 * val (l.drop (k + 1)) := by
  rw [drop_cons l k h]; rfl
theorem drop_split (l : List Int) (k n : Nat) (h : k + n ≤ l.length) : val (l.drop k) = val ((l.drop k).take n) + 4294967296 ^ n * val (l.drop (k + n)) := by
  have := val_split (l.drop k) n (by rw [List.length_drop]; omega)
  rw [List.drop_drop] at this
  exact this
def Good (x y : List Int) (k : Nat) (v : Int) : Prop := W y ∧ y.length = x.length ∧ y.take k = x.take k ∧ val (y.drop k) = v
theorem good_of {x : List Int} {k n : Nat} {S : List Int} {v : Int} (hx : W x) (hk : k + n < x.length) (hS : W S) (lS : S.length = n) (hr : val (x.drop (k + n + 1)) = 0) (hv : val S = v) :
    Good x (x.take k ++ S ++ [0] ++ x.drop (k + n + 1)) k v := by
  have hp : (x.take k).length = k := by rw [List.length_take]; omega
  obtain ⟨a, b, c, d, e⟩ := parts (x.take k) S (x.drop (k + n + 1)) 0 k n hp lS
  refine ⟨(((hx.take k).append hS).append (W.cons (by omega) (by omega) W.nil)).append (hx.drop _), ?_, a, ?_⟩
  · simp [hp, lS]; omega
  · rw [b, val_append]
    simp only [val, hr]
    omega
theorem step_num {P X X1 xk lx lr lv U0 U1 U2 Z V V1 V2 : Int} (hP : 0 < P) (hk0 : 0 ≤ xk) (hk1 : xk < 4294967296) (hX : X = xk + 4294967296 * X1) (hX2 : X = lx + P * (U2 + 4294967296 * (U1 + 4294967296 * (U0 + 4294967296 * Z))))
    (hX1 : X1 = lr + P * (U1 + 4294967296 * (U0 + 4294967296 * Z))) (hV : V = lv + P * (V2 + 4294967296 * V1)) (hr : 0 ≤ lr) (hl : lv < P) (u0 : 0 ≤ U0) (u1 : 0 ≤ U1) (v1 : V1 < 4294967296) (v2 : V2 < 4294967296) (hz : 0 ≤ Z) (h : X1 < V) :
    Z = 0 ∧ U0 ≤ V1 ∧ X < 4294967296 * V ∧ X = lx + P * ((U0 * 4294967296 + U1) * 4294967296 + U2) ∧ V = lv + P * (V1 * 4294967296 + V2) := by
  have e : P * (U1 + 4294967296 * (U0 + 4294967296 * Z)) < P * (1 + (V2 + 4294967296 * V1)) := by rw [Int.mul_add P 1]; omega
  have e2 := Int.lt_of_mul_lt_mul_left e (by omega)
  have hz0 : Z = 0 := by omega
  refine ⟨hz0, by omega, by omega, ?_, ?_⟩
  · rw [hX2, hz0, show (U0 * 4294967296 + U1) * 4294967296 + U2 = U2 + 4294967296 * (U1 + 4294967296 * (U0 + 4294967296 * 0)) from by omega]
  · rw [hV, show V1 * 4294967296 + V2 = V2 + 4294967296 * V1 from by omega]
theorem long_step (x b : List Int) (hx : W x) (hb : W b) (k n : Nat) (hn : b.length = n) (h2 : 2 ≤ n) (hk : k + n < x.length) (hla : x.length < 1099511627776) (hV : 2147483648 ≤ b.getD (n - 1) 0) (hX : val (x.drop (k + 1)) < val b) :
    ∃ (Q G : Int) (fl : Bool) (x1 : List Int), Q = val (x.drop k) / val b ∧ 0 ≤ Q ∧ Q ≤ 4294967295 ∧ Ev (fun f => nat_guess.f f x b (k : Int)) G ∧ Ev (fun f => nat_take.f f x b (k : Int) G) (fl, x1) ∧
      (fl = false → G = Q ∧ Good x x1 k (val (x.drop k) % val b)) ∧
      (fl = true → G = Q + 1 ∧ ∃ x2, Ev (fun f => nat_give.f f x1 b (k : Int)) x2 ∧ Good x x2 k (val (x.drop k) % val b)) := by
  obtain ⟨d, rfl⟩ : ∃ d, n = d + 2 := ⟨n - 2, by omega⟩
  rw [show d + 2 - 1 = d + 1 from rfl] at hV
  -- what lies where
  have s1 := val_cons' x k (by omega)
  have s2 := drop_split x k d (by omega)
  have s3 := val_cons' x (k + d) (by omega)
  have s4 := val_cons' x (k + d + 1) (by omega)
  have s5 := val_cons' x (k + d + 2) (by omega)
  have t1 := val_split b d (by omega)
  have t2 := val_cons' b d (by omega)
  have t3 := val_cons' b (d + 1) (by omega)
  rw [List.drop_eq_nil_of_le (show b.length ≤ d + 1 + 1 by omega)] at t3
  have r1 := drop_split x (k + 1) d (by omega)
  have r0 := val_nonneg (hx.drop (k + d + 2 + 1))
  have r2 := val_nonneg ((hx.drop (k + 1)).take d)
  have l0 := val_nonneg ((hx.drop k).take d)
  have l1 := val_lt ((hx.drop k).take d)
  rw [List.length_take, List.length_drop, Nat.min_eq_left (by omega)] at l1
  have m0 := val_nonneg (hb.take d)
  have m1 := val_lt (hb.take d)
  rw [List.length_take, Nat.min_eq_left (by omega)] at m1
  have u0 := hx.getD (k + d + 2)
  have u1 := hx.getD (k + d + 1)
  have u2 := hx.getD (k + d)
  have v1 := hb.getD (d + 1)
  have v2 := hb.getD d
  have uk := hx.getD k
  have p0 := pow_pos d
  have T := take_ev x b hx hb
  have C := fun (q : Int) => carr_val 4294967296 (fun t => x.getD (k + t) 0 - q * b.getD t 0) (d + 2) 0 0
  have CD := fun (q : Int) => carr_D (B := 4294967296) (by decide) (fun t => x.getD (k + t) 0 - q * b.getD t 0) (d + 2) 0 0
  have CL := fun (q : Int) => carr_len 4294967296 (fun t => x.getD (k + t) 0 - q * b.getD t 0) (d + 2) 0 0
  have eV : vs 4294967296 (fun t => b.getD t 0) (d + 2) 0 = val b := by rw [vs_list _ _ _ _ (by omega), List.drop_zero, vb_val]
  have eX : vs 4294967296 (fun t => x.getD (k + t) 0) (d + 2) 0 = val ((x.drop k).take (d + 2)) := by rw [vs_seg _ _ _ _ _ (by omega), vb_val]; rfl
  have s6 := drop_split x k (d + 2) (by omega)
  have xt := (hx.drop k).take (d + 2)
  have P2 := pow_pos (d + 2)
  have V2l := val_lt hb
  rw [hn] at V2l
  rw [show x.drop (k + 1 + d) = x.drop (k + d + 1) from by rw [show k + 1 + d = k + d + 1 from by omega]] at r1
  rw [show x.drop (k + d + 1 + 1) = x.drop (k + d + 2) from rfl, s5] at s4
  rw [s4] at s3 r1
  rw [s3] at s2
  rw [t3] at t2
  rw [t2] at t1
  simp only [val, Int.mul_zero, Int.add_zero] at t1
  rw [show x.drop (k + (d + 2)) = x.drop (k + d + 2) from rfl, s5] at s6
  obtain ⟨z0, hU, hXV, eX3, eV3⟩ := step_num p0 uk.1 uk.2 s1 s2 r1 t1 r2 m1 u0.1 u1.1 v1.2 v2.2 r0 hX
  obtain ⟨G, eG, g0, g1, g2, g3⟩ := guess_ev x b hx hb k (d + 2) hn h2 hk hla (b.getD (d + 1) 0) (b.getD d 0) (x.getD (k + d + 2) 0) (x.getD (k + d + 1) 0) (x.getD (k + d) 0) rfl rfl rfl rfl rfl hV hU
  obtain ⟨q0, q1, q2, q3⟩ := guess_bounds p0 l0 l1 m0 m1 eX3 eV3 (by omega) hXV (by omega) g0 g1 g2 g3
  have TG := T G g0 (by omega) k (d + 2) hn hk hla
  have CG := C G
  rw [vs_sub, vs_mul, eV, eX, vb_val] at CG
  have SW := W_D.2 (CD G)
  have SL := CL G
  have hz : val (x.drop (k + (d + 2) + 1)) = 0 := z0
  rw [show x.getD (k + (d + 2)) 0 = x.getD (k + d + 2) 0 from rfl] at TG
  rw [z0] at s6
  clear T C CD CL s1 s2 s3 s4 s5 t1 t2 t3 r1 r2 l0 l1 m0 m1 uk v2 u2 u1 eX3 eV3 g2 g3 p0 hX hXV eX
  generalize (carr 4294967296 (fun t => x.getD (k + t) 0 - G * b.getD t 0) (d + 2) 0 0).1 = S at CG SW SL TG
  generalize (carr 4294967296 (fun t => x.getD (k + t) 0 - G * b.getD t 0) (d + 2) 0 0).2 = c at CG TG
  have S0 := val_nonneg SW
  have S1 := val_lt SW
  rw [SL] at S1
  have hVp : 0 < val b := by
    have := val_nonneg hb
    rcases Int.lt_or_le 0 (val b) with c1 | c1
    · exact c1
    · have h0 : val b = 0 := by omega
      have := val_cons' b (d + 1) (by omega)
      have h3 := val_split b (d + 1) (by omega)
      have h4 := val_nonneg (hb.take (d + 1))
      have h5 := val_nonneg (hb.drop (d + 1 + 1))
      have h6 := pow_pos (d + 1)
      have : (4294967296 : Int) ^ (d + 1) * 1 ≤ 4294967296 ^ (d + 1) * val (b.drop (d + 1)) := Int.mul_le_mul_of_nonneg_left (by omega) (by omega)
      omega
  have R0 := Int.emod_nonneg (val (x.drop k)) (show val b ≠ 0 by omega)
  have R1 := Int.emod_lt_of_pos (val (x.drop k)) hVp
  have RE := Int.mul_ediv_add_emod (val (x.drop k)) (val b)
  obtain ⟨w, hw⟩ : ∃ w, w = x.getD (k + d + 2) 0 + c := ⟨_, rfl⟩
  rw [← hw] at TG
  have hR : val S + 4294967296 ^ (d + 2) * w = val (x.drop k) - G * val b := by
    rw [hw, Int.mul_add, s6]
    simp only [Int.mul_zero, Int.add_zero] at CG ⊢
    omega
  obtain ⟨K1, K2⟩ := two_cases S0 S1 hR
  refine ⟨_, G, _, _, rfl, q0, q3, eG, TG, ?_, ?_⟩
  · intro hf
    have hw0 := of_decide_eq_false hf
    rcases (show G = val (x.drop k) / val b ∨ G = val (x.drop k) / val b + 1 by omega) with e | e
    · have e1 : val (x.drop k) - G * val b = val (x.drop k) % val b := by rw [e, Int.mul_comm]; omega
      rw [e1] at K1
      obtain ⟨a1, a2⟩ := K1 R0 (by omega)
      refine ⟨e, ?_⟩
      have L := good_of hx hk SW SL hz a2
      rw [a1]
      exact L
    · exfalso
      have e1 : val (x.drop k) - G * val b = val (x.drop k) % val b - val b := by rw [e, Int.add_mul, Int.mul_comm (_ / _)]; omega
      rw [e1] at K2
      have := (K2 (by omega) (by omega)).1
      omega
  · intro hf
    have hw0 := of_decide_eq_true hf
    rcases (show G = val (x.drop k) / val b ∨ G = val (x.drop k) / val b + 1 by omega) with e | e
    · exfalso
      have e1 : val (x.drop k) - G * val b = val (x.drop k) % val b := by rw [e, Int.mul_comm]; omega
      rw [e1] at K1
      have := (K1 R0 (by omega)).1
      omega
    · have e1 : val (x.drop k) - G * val b = val (x.drop k) % val b - val b := by rw [e, Int.add_mul, Int.mul_comm (_ / _)]; omega
      rw [e1] at K2
      obtain ⟨a1, a2⟩ := K2 (by omega) (by omega)
      refine ⟨e, ?_⟩
      have hp : (x.take k).length = k := by rw [List.length_take]; omega
      rw [a1, show (-1 : Int) % 4294967296 = 4294967295 from rfl]
      obtain ⟨b1, b2, b3, b4, b5⟩ := parts (x.take k) S (x.drop (k + (d + 2) + 1)) 4294967295 k (d + 2) hp SL
      have W1 : W (x.take k ++ S ++ [4294967295] ++ x.drop (k + (d + 2) + 1)) := (((hx.take k).append SW).append (W.cons (by omega) (by omega) W.nil)).append (hx.drop _)
      have L1 : (x.take k ++ S ++ [4294967295] ++ x.drop (k + (d + 2) + 1)).length = x.length := by simp [hp, SL]; omega
      generalize x.take k ++ S ++ [4294967295] ++ x.drop (k + (d + 2) + 1) = y at b1 b2 b3 b4 b5 W1 L1 ⊢
      have GV := give_ev y b W1 hb k (d + 2) hn (by omega) (by omega)
      have C2 := carr_val 4294967296 (fun t => y.getD (k + t) 0 + b.getD t 0) (d + 2) 0 0
      have D2 := carr_D (B := 4294967296) (by decide) (fun t => y.getD (k + t) 0 + b.getD t 0) (d + 2) 0 0
      have N2 := carr_len 4294967296 (fun t => y.getD (k + t) 0 + b.getD t 0) (d + 2) 0 0
      rw [vs_add, eV, vs_seg _ _ _ _ _ (by omega), vb_val, vb_val, show y.drop (k + 0) = y.drop k from rfl, b5] at C2
      rw [b1, b3, b4] at GV
      have SW2 := W_D.2 D2
      generalize (carr 4294967296 (fun t => y.getD (k + t) 0 + b.getD t 0) (d + 2) 0 0).1 = S2 at C2 SW2 N2 GV
      generalize (carr 4294967296 (fun t => y.getD (k + t) 0 + b.getD t 0) (d + 2) 0 0).2 = c2 at C2 GV
      have S20 := val_nonneg SW2
      have S21 := val_lt SW2
      rw [N2] at S21
      have hR2 : val S2 + 4294967296 ^ (d + 2) * (c2 - 1) = val (x.drop k) % val b := by rw [Int.mul_sub]; omega
      obtain ⟨f1, f2⟩ := (two_cases S20 S21 hR2).1 R0 (by omega)
      have hc : (4294967295 + c2) % 4294967296 = 0 := by omega
      rw [hc] at GV
      exact ⟨_, GV, good_of hx hk SW2 N2 hz f2⟩
end Go.Proofs.YtmndbhgbngkakaaDoor.F
end
section
/- Division: by many limbs; Div and Gcd. No condition beyond the lists' lengths. -/
namespace Go.Proofs.YtmndbhgbngkakaaDoor.F

set_option linter.all false
open Go.RowKit Go.Proofs.YtmndbhgbngkakaaDoor.K Go.Proofs.YtmndbhgbngkakaaDoorW.PrintWords Go.Proofs.YtmndbhgbngkakaaDoorW.PrintLast Go.Proofs.YtmndbhgbngkakaaDoorW.PrintMore Go.Proofs.YtmndbhgbngkakaaDoor.M

/-- Not by rfl alone: the kernel must not compare the two sides as programs. -/
theorem ob {α β : Type} (a : α) (f : α → Option β) : (some a).bind f = f a := Eq.trans (Eq.refl _) (Eq.symm (Eq.refl _))
theorem keep_num {P V A T X R Q w : Int} (hA : A = T + P * X + V * (P * 4294967296 * w)) (hX : V * Q + R = X) : A = T + P * R + V * (P * (Q + 4294967296 * w)) := by
  rw [hA, ← hX, Int.mul_add, Int.mul_add, Int.mul_add, ← Int.mul_assoc P V Q, Int.mul_comm P V, Int.mul_assoc V P Q, Int.mul_assoc P 4294967296 w]
  omega
theorem long_l0 (b : List Int) (hb : W b) (n K s : Nat) (hs : s < 32) (hn : b.length = n) (h2 : 2 ≤ n) (hK : K + n < 1099511627776) (hV : 2147483648 ≤ b.getD (n - 1) 0) (A : Int) (k1 : Nat) :
    ∀ (x o : List Int), k1 ≤ K → W x → x.length = K + n → W o → o.length = K → A = val x + val b * (4294967296 ^ k1 * val (o.drop k1)) → val (x.drop k1) < val b →
    Ev (fun f => nat_long.l0 f (s : Int) x b o ((k1 : Int) - 1)) (lim (A / val b).toNat, lim (A % val b / 2 ^ s).toNat) := by
  induction k1 with
  | zero =>
    intro x o hk wx lx wo lo hA hX
    rw [List.drop_zero, Int.pow_zero, Int.one_mul] at hA
    rw [List.drop_zero] at hX
    have x0 := val_nonneg wx
    have e1 : A / val b = val o := by rw [hA, Int.add_mul_ediv_left _ _ (by omega), Int.ediv_eq_zero_of_lt x0 hX, Int.zero_add]
    have e2 : A % val b = val x := by rw [hA, Int.add_mul_emod_self_left, Int.emod_eq_of_lt x0 hX]
    rw [e1, e2]
    obtain ⟨r, er, wr, lr, vr⟩ := unshift_ev x wx (by omega) s hs
    rw [← vr]
    refine Ev.step (f := fun f => (nat_trim.f f o).bind fun t178 => ((nat_unshift.f f x (s : Int)).bind fun t181 => ((nat_trim.f f t181).bind fun t184 => (some (t178, t184))))) (fun f => ?_) ?_
    · rw [nat_long.l0.eq_2, if_neg (by omega)]
    · refine Ev.bind (trim_lim (n := (val o).toNat) (by omega) wo (by have := val_nonneg wo; omega)) ?_
      refine Ev.bind er ?_
      refine Ev.bind (trim_lim (n := (val r).toNat) (by omega) wr (by have := val_nonneg wr; omega)) ?_
      exact Ev.now _
  | succ k ih =>
    intro x o hk wx lx wo lo hA hX
    obtain ⟨Q, G, fl, x1, hQ, q0, q1, eG, eT, c1, c2⟩ := long_step x b wx hb k n hn h2 (by omega) (by omega) hV hX
    have hVp : 0 < val b := by have := val_nonneg (wx.drop (k + 1)); omega
    have R1 := Int.emod_lt_of_pos (val (x.drop k)) hVp
    have RE := Int.mul_ediv_add_emod (val (x.drop k)) (val b)
    rw [← hQ] at RE
    have hko : k < o.length := by omega
    have tl : ∀ x2, Good x x2 k (val (x.drop k) % val b) → Ev (fun f => nat_long.l0 f (s : Int) x2 b (o.set k Q) ((k : Int) - 1)) (lim (A / val b).toNat, lim (A % val b / 2 ^ s).toNat) := by
      intro x2 g
      obtain ⟨w2, l2, t2, v2⟩ := g
      refine ih x2 (o.set k Q) (by omega) w2 (by omega) (wo.set k q0 (by omega)) (by rw [List.length_set]; exact lo) ?_ (by rw [v2]; exact R1)
      have s1 := val_split x k (by omega)
      have s2 := val_split x2 k (by omega)
      have s3 := val_cons' (o.set k Q) k (by rw [List.length_set]; exact hko)
      rw [M.getD_set_eq _ _ _ hko, List.drop_set_of_lt (show k < k + 1 by omega)] at s3
      rw [s2, t2, v2, s3]
      refine keep_num (X := val (x.drop k)) ?_ RE
      rw [hA, s1, pow_succ, Int.mul_comm 4294967296 (4294967296 ^ k)]
    have p0 : ((k + 1 : Nat) : Int) - 1 = (k : Int) := by omega
    have p1 : (k : Int) ≥ 0 := by omega
    have p2 : (k : Int) < (o.length : Int) := n_lt hko
    have p3 : wrap64 ((k : Int) - 1) = (k : Int) - 1 := wrap64_in (by omega) (by omega)
    have p4 : IntKind.u64.wrap (Q + 1 - 1) % 4294967296 = Q := by rw [u64_in (by omega) (by omega)]; omega
    have p5 : Q % 4294967296 = Q := by omega
    have p6 : (0 : Int) ≤ (k : Int) := p1
    rw [p0]
    refine Ev.step (fun f => nat_long.l0.eq_2 _ _ _ _ _ f) ?_
    simp only [if_pos p1]
    refine Ev.bind eG ?_
    refine Ev.bind eT ?_
    cases fl with
    | false =>
      obtain ⟨e, g⟩ := c1 rfl
      subst e
      simp only [Bool.false_eq_true, if_false, if_pos p6, if_pos p2, p3, p5, Int.toNat_natCast]
      exact tl x1 g
    | true =>
      obtain ⟨e, x2, eg, g⟩ := c2 rfl
      simp only [if_true]
      refine Ev.bind eg ?_
      simp only [e, if_pos p6, if_pos p2, p3, p4, Int.toNat_natCast]
      exact tl x2 g
theorem two_cast (s : Nat) : ((2 ^ s : Nat) : Int) = 2 ^ s := by rw [Int.natCast_pow]; rfl
theorem lz_eq (t : Nat) (h0 : t ≠ 0) (h : t < 4294967296) : ∃ s : Nat, s < 32 ∧ bits_LeadingZeros32.f (t : Int) = some (s : Int) ∧ 2147483648 ≤ t * 2 ^ s ∧ t * 2 ^ s < 4294967296 := by
  have b1 := bl_lt t
  have b2 := bl_low h0
  have b3 : bl t ≤ 32 := bl_le (by omega)
  have b4 : 0 < bl t := by rw [bl_pos h0]; omega
  refine ⟨32 - bl t, by omega, ?_, ?_, ?_⟩
  · have e : bits_Len32.f (t : Int) = some ((bl t : Nat) : Int) := by
      unfold bits_Len32.f
      rw [if_pos ⟨by omega, by omega⟩, Int.toNat_natCast, bitLen_bl (by omega)]
    unfold bits_LeadingZeros32.f
    rw [e, Option.bind_some, wrap64_in (by omega) (by omega)]
    congr 1
    omega
  · have := Nat.mul_le_mul_right (2 ^ (32 - bl t)) b2
    rw [← Nat.pow_add, show bl t - 1 + (32 - bl t) = 31 from by omega] at this
    exact this
  · have := Nat.mul_lt_mul_of_pos_right b1 (Nat.two_pow_pos (32 - bl t))
    rw [← Nat.pow_add, show bl t + (32 - bl t) = 32 from by omega] at this
    exact this
theorem long_idx {lx ly n K lb : Nat} (hn : ly = n) (h2 : 2 ≤ n) (hK : lx + 1 = K + n) (hx : lx < 1073741824) (hm : ly ≤ lx) (hb : lb = n + 1) :
    wrap64 ((ly : Int) - 1) = ((n - 1 : Nat) : Int) ∧ wrap64 (wrap64 ((lx : Int) - (ly : Int)) + 1) = (K : Int) ∧ wrap64 ((K : Int) - 1) = (K : Int) - 1 ∧ ((n - 1 : Nat) : Int) < (ly : Int) ∧ K ≤ 70368744177664 ∧ (ly : Int) ≤ (lb : Int) ∧ K + n < 1099511627776 := by
  refine ⟨?_, ?_, wrap64_in (by omega) (by omega), by omega, by omega, by omega, by omega⟩
  · rw [hn]; exact w_pred (by omega) (by omega)
  · rw [wrap64_in (n := (lx : Int) - (ly : Int)) (by omega) (by omega), wrap64_in (by omega) (by omega)]
    omega
theorem long_f (a b a' b' : List Int) (t s n K : Nat) (hn : b.length = n) (h2 : 2 ≤ n) (hK : a.length + 1 = K + n) (hx : a.length < 1073741824) (hm : b.length ≤ a.length) (lb : b'.length = n + 1)
    (ht : b.getD (n - 1) 0 = (t : Int)) (es : bits_LeadingZeros32.f (t : Int) = some (s : Int)) (ea : Ev (fun f => nat_shift.f f a (s : Int)) a') (eb : Ev (fun f => nat_shift.f f b (s : Int)) b') (R : List Int × List Int)
    (L : Ev (fun f => nat_long.l0 f (s : Int) a' (b'.take n) (List.replicate K 0) ((K : Int) - 1)) R) : Ev (fun f => nat_long.f f a b) R := by
  obtain ⟨i0, i1, i2, p1, p5, p3, _⟩ := long_idx hn h2 hK hx hm lb
  have p0 := n_nn (n - 1)
  have p2 := n_nn b.length
  have p4 := n_nn K
  unfold nat_long.f
  rw [i0, i1, rd_nat, ht, es]
  simp only [if_pos p0, if_pos p1, ob]
  refine Ev.bind ea ?_
  refine Ev.bind eb ?_
  have tn : ((b.length : Nat) : Int).toNat = n := by rw [Int.toNat_natCast]; exact hn
  have tk : ((K : Nat) : Int).toNat = K := Int.toNat_natCast K
  have i3 : wrap64 (((List.replicate K (0 : Int)).length : Int) - 1) = (K : Int) - 1 := by rw [List.length_replicate]; exact i2
  refine Eq.mp (congrArg (fun g => Ev g R) (funext fun f => Eq.symm ?_)) L
  rw [if_pos p2, if_pos p3, if_pos p4, tn, tk, if_pos p5]
  exact congrArg _ i3
theorem long_ev (x y : Nat) (hxy : y ≤ x) (n : Nat) (hn : (lim y).length = n) (h2 : 2 ≤ n) (hx : (lim x).length < 1073741824) : Ev (fun f => nat_long.f f (lim x) (lim y)) (lim (x / y), lim (x % y)) := by
  have hm := len_mono hxy
  have wy := W_lim y
  have wt := wy.getD (n - 1)
  have nz := last_ne (lim_can y) (by omega)
  rw [hn] at nz
  obtain ⟨t, ht⟩ : ∃ t : Nat, (lim y).getD (n - 1) 0 = (t : Int) := ⟨_, (Int.toNat_of_nonneg wt.1).symm⟩
  rw [ht] at wt nz
  obtain ⟨s, hs, es, t0, t1⟩ := lz_eq t (by omega) (by omega)
  have sv := val_split (lim y) (n - 1) (by omega)
  have sc := val_cons' (lim y) (n - 1) (by omega)
  rw [List.drop_eq_nil_of_le (show (lim y).length ≤ n - 1 + 1 by omega), ht] at sc
  simp only [val, Int.mul_zero, Int.add_zero] at sc
  rw [sc, val_lim] at sv
  have c0 := val_nonneg (wy.take (n - 1))
  have c1 := val_lt (wy.take (n - 1))
  rw [List.length_take, Nat.min_eq_left (by omega)] at c1
  obtain ⟨a', ea, wa, la, va⟩ := shift_ev (lim x) (W_lim x) (by omega) s hs
  obtain ⟨b', eb, wb, lb, vb'⟩ := shift_ev (lim y) wy (by omega) s hs
  rw [val_lim] at va vb'
  rw [hn] at lb
  have hP := two_pos s
  have t0' : (2147483648 : Int) ≤ t * 2 ^ s := by
    have h := Int.ofNat_le.2 t0
    rw [Int.natCast_mul, two_cast] at h
    omega
  have t1' : (t : Int) * 2 ^ s + 2 ^ s ≤ 4294967296 := by
    have d1 : (t + 1) * 2 ^ s ≤ 4294967296 := by
      have e32 : 2 ^ s * 2 ^ (32 - s) = 4294967296 := by rw [← Nat.pow_add, show s + (32 - s) = 32 from by omega]
      have : t < 2 ^ (32 - s) := by
        rw [← e32, Nat.mul_comm t] at t1
        exact Nat.lt_of_mul_lt_mul_left t1
      calc (t + 1) * 2 ^ s ≤ 2 ^ (32 - s) * 2 ^ s := Nat.mul_le_mul_right _ this
        _ = 4294967296 := by rw [Nat.mul_comm]; exact e32
    rw [Nat.add_mul, Nat.one_mul] at d1
    have h := Int.ofNat_le.2 d1
    rw [Int.natCast_add, Int.natCast_mul, two_cast] at h
    omega
  -- y * 2^s lies within n limbs, with a great one at the end
  obtain ⟨P, hPn⟩ : ∃ P : Int, P = 4294967296 ^ (n - 1) := ⟨_, rfl⟩
  have hPp : 0 < P := by rw [hPn]; exact pow_pos _
  have hPn1 : (4294967296 : Int) ^ n = 4294967296 * P := by rw [hPn, ← pow_succ, show n - 1 + 1 = n from by omega]
  rw [← hPn] at sv c1
  have y0 : P * (t * 2 ^ s) ≤ y * 2 ^ s := by
    have : P * (t : Int) * 2 ^ s ≤ y * 2 ^ s := Int.mul_le_mul_of_nonneg_right (by omega) (by omega)
    rw [Int.mul_assoc] at this
    exact this
  have y1 : (y : Int) * 2 ^ s < 4294967296 * P := by
    have h1 : (y : Int) < P * (t + 1) := by rw [Int.mul_add]; omega
    have h2 : (y : Int) * 2 ^ s < P * (t + 1) * 2 ^ s := Int.mul_lt_mul_of_pos_right h1 hP
    have h3 : P * ((t : Int) * 2 ^ s + 2 ^ s) ≤ P * 4294967296 := Int.mul_le_mul_of_nonneg_left t1' (by omega)
    have h4 : P * ((t : Int) + 1) * 2 ^ s = P * ((t : Int) * 2 ^ s + 2 ^ s) := by rw [Int.mul_assoc, Int.add_mul, Int.one_mul]
    omega
  have y2 : P * 2147483648 ≤ P * (t * 2 ^ s) := Int.mul_le_mul_of_nonneg_left t0' (by omega)
  have bs := val_split b' n (by omega)
  have b1 := val_nonneg (wb.take n)
  have b2 := val_nonneg (wb.drop n)
  have lbt : (b'.take n).length = n := by rw [List.length_take]; omega
  have hz : val (b'.drop n) = 0 := by
    rcases Int.lt_or_le 0 (val (b'.drop n)) with c | c
    · have : (4294967296 : Int) ^ n * 1 ≤ 4294967296 ^ n * val (b'.drop n) := Int.mul_le_mul_of_nonneg_left (by omega) (by rw [hPn1]; omega)
      omega
    · omega
  rw [hz, vb'] at bs
  have wbt := wb.take n
  have hvb : val (b'.take n) = y * 2 ^ s := by omega
  generalize hbt : b'.take n = b at lbt hvb wbt b1
  have bs2 := val_split b (n - 1) (by omega)
  have bs3 := val_cons' b (n - 1) (by omega)
  rw [List.drop_eq_nil_of_le (show b.length ≤ n - 1 + 1 by omega)] at bs3
  simp only [val, Int.mul_zero, Int.add_zero] at bs3
  have bs4 := val_lt (wbt.take (n - 1))
  rw [List.length_take, Nat.min_eq_left (by omega), ← hPn] at bs4
  rw [bs3, ← hPn] at bs2
  have hV : 2147483648 ≤ b.getD (n - 1) 0 := by
    rcases Int.lt_or_le (b.getD (n - 1) 0) 2147483648 with c | c
    · have : P * (b.getD (n - 1) 0 + 1) ≤ P * 2147483648 := Int.mul_le_mul_of_nonneg_left (by omega) (by omega)
      rw [Int.mul_add] at this
      omega
    · exact c
  have y3 : 0 < P * 2147483648 := by omega
  -- the top limbs of x are less than y
  obtain ⟨K, hK⟩ : ∃ K, (lim x).length + 1 = K + n := ⟨(lim x).length + 1 - n, by omega⟩
  have xl : (x : Int) < 4294967296 ^ (lim x).length := lt_pow (len_le.1 (Nat.le_refl _))
  have eL : (4294967296 : Int) ^ (lim x).length = 4294967296 ^ K * P := by rw [hPn, ← Int.pow_add, show K + (n - 1) = (lim x).length from by omega]
  have hsp := val_split a' K (by omega)
  have a0 := val_nonneg (wa.take K)
  have hX : val (a'.drop K) < val b := by
    have h1 : (x : Int) * 2 ^ s < 4294967296 ^ K * P * 2 ^ s := Int.mul_lt_mul_of_pos_right (by omega) hP
    rw [Int.mul_assoc] at h1
    have h2 : (4294967296 : Int) ^ K * val (a'.drop K) < 4294967296 ^ K * (P * 2 ^ s) := by omega
    have h3 := Int.lt_of_mul_lt_mul_left h2 (Int.le_of_lt (pow_pos K))
    have h4 : P * (1 * 2 ^ s) ≤ P * (t * 2 ^ s) := Int.mul_le_mul_of_nonneg_left (Int.mul_le_mul_of_nonneg_right (by omega) (by omega)) (by omega)
    rw [Int.one_mul] at h4
    omega
  have L := long_l0 b wbt n K s hs lbt h2 (by omega) hV (x * 2 ^ s) K a' (List.replicate K 0) (Nat.le_refl _) wa (by omega) (W.replicate _) (by simp) (by rw [va, List.drop_eq_nil_of_le (by simp)]; simp [val]) hX
  have eA : (x : Int) * 2 ^ s = ((x * 2 ^ s : Nat) : Int) := by rw [Int.natCast_mul, two_cast]
  have eB : (y : Int) * 2 ^ s = ((y * 2 ^ s : Nat) : Int) := by rw [Int.natCast_mul, two_cast]
  have eS : ((2 : Int) ^ s) = ((2 ^ s : Nat) : Int) := (two_cast s).symm
  have r1 : ((x : Int) * 2 ^ s / val b).toNat = x / y := by
    rw [hvb, eA, eB, ← Int.natCast_ediv, Int.toNat_natCast, Nat.mul_div_mul_right _ _ (Nat.two_pow_pos s)]
  have r2 : ((x : Int) * 2 ^ s % val b / 2 ^ s).toNat = x % y := by
    rw [hvb, eA, eB, eS, ← Int.natCast_emod, ← Int.natCast_ediv, Int.toNat_natCast, Nat.mul_mod_mul_right, Nat.mul_div_cancel _ (Nat.two_pow_pos s)]
  rw [r1, r2] at L
  exact long_f (lim x) (lim y) a' b' t s n K hn h2 hK hx hm lb ht es ea eb _ (by rw [hbt]; exact L)
theorem split_ev (x y : Nat) (hy : y ≠ 0) (hx : (lim x).length < 1073741824) (hly : (lim y).length < 1073741824) : Ev (fun f => nat_split.f f (lim x) (lim y)) (lim (x / y), lim (x % y)) := by
  unfold nat_split.f
  refine Ev.bind (order_ev x y (by omega) (by omega)) ?_
  by_cases c : x < y
  · have hc : cmpI x y < 0 := by unfold cmpI; rw [if_pos c]; omega
    simp only [if_pos hc, clone_eq (lim x) (by omega), Option.bind_some]
    rw [Nat.div_eq_of_lt c, Nat.mod_eq_of_lt c, lim_zero]
    exact Ev.now _
  · have hc : ¬ cmpI x y < 0 := by unfold cmpI; rw [if_neg c]; split <;> omega
    have lp : 0 < (lim y).length := by
      rcases Nat.eq_zero_or_pos (lim y).length with h | h
      · exact absurd (lim_eq_nil.1 (List.length_eq_zero_iff.1 h)) hy
      · exact h
    simp only [if_neg hc]
    by_cases c1 : (lim y).length = 1
    · have hb : y < 4294967296 := by have := len_le.1 (Nat.le_of_eq c1); simpa using this
      have ey : lim y = [(y : Int)] := by
        rw [lim_pos hy, Nat.mod_eq_of_lt hb, Nat.div_eq_of_lt hb, lim_zero]
      rw [ey]
      simp only [List.length_singleton, Int.natCast_one, if_true, if_pos (show (0 : Int) < 1 by decide), show rd [(y : Int)] 0 = (y : Int) from rfl]
      refine Ev.bind (short_ev x y (by omega) (by omega) hb) ?_
      refine Ev.bind (of_ev' (x % y) ?_ ?_) (Ev.now _)
      · have := Nat.mod_lt x (show y > 0 by omega)
        exact u64_in (by omega) (by omega)
      · have := Nat.mod_lt x (show y > 0 by omega)
        omega
    · simp only [if_neg (show ¬ ((lim y).length : Int) = 1 by omega)]
      exact Ev.bind (long_ev x y (by omega) _ rfl (by omega) hx) (Ev.now _)
theorem lim_len_zero (y : Nat) : (lim y).length = 0 ↔ y = 0 := by rw [List.length_eq_zero_iff, lim_eq_nil]
theorem div_ev (x y : Nat) (hx : x < 4294967296 ^ 64) (hy : y < 4294967296 ^ 64) : Ev (fun f => nat_Div.f f (lim x) (lim y)) (if y = 0 then ([], [], 7) else (lim (x / y), lim (x % y), 0)) := by
  have lx := len_le.2 hx
  have ly := len_le.2 hy
  unfold nat_Div.f
  simp only [right_eq (lim x) (by omega), right_eq (lim y) (by omega), right_lim hx, right_lim hy, Option.bind_some, if_true, Bool.not_true]
  refine Ev.step (fun f => nat_Div.j0.eq_2 _ _ _ f) ?_
  simp only [Bool.false_eq_true, if_false]
  by_cases c : y = 0
  · have := (lim_len_zero y).2 c
    simp only [if_pos c, if_pos (show ((lim y).length : Int) = 0 by omega)]
    exact Ev.now _
  · have : (lim y).length ≠ 0 := fun h => c ((lim_len_zero y).1 h)
    simp only [if_neg c, if_neg (show ¬ ((lim y).length : Int) = 0 by omega)]
    exact Ev.bind (split_ev x y c (by omega) (by omega)) (Ev.now _)
theorem gcd_l0 (n : Nat) : ∀ x y : Nat, y ≤ n → (lim x).length < 1073741824 → (lim y).length < 1073741824 → Ev (fun f => nat_Gcd.l0 f (lim x) (lim y)) (lim (Nat.gcd x y), 0) := by
  induction n with
  | zero =>
    intro x y h hx hy
    have : y = 0 := by omega
    subst this
    refine Ev.step (fun f => nat_Gcd.l0.eq_2 _ _ f) ?_
    simp only [lim_zero, List.length_nil, Int.natCast_zero, gt_iff_lt, Int.lt_irrefl, if_false, clone_eq (lim x) (by omega), Option.bind_some, Nat.gcd_zero_right]
    exact Ev.now _
  | succ n ih =>
    intro x y h hx hy
    by_cases c : y = 0
    · exact ih x y (by omega) hx hy
    · have : (lim y).length ≠ 0 := fun h => c ((lim_len_zero y).1 h)
      refine Ev.step (fun f => nat_Gcd.l0.eq_2 _ _ f) ?_
      simp only [if_pos (show ((lim y).length : Int) > 0 by omega)]
      refine Ev.bind (split_ev x y c hx hy) ?_
      have hm := Nat.mod_lt x (show y > 0 by omega)
      have L := ih y (x % y) (by omega) hy (by have := len_mono (Nat.le_of_lt hm); omega)
      have e : Nat.gcd x y = Nat.gcd y (x % y) := by rw [Nat.gcd_comm x y, Nat.gcd_rec, Nat.gcd_comm]
      rw [e]
      exact L
theorem gcd_ev (x y : Nat) (hx : x < 4294967296 ^ 64) (hy : y < 4294967296 ^ 64) : Ev (fun f => nat_Gcd.f f (lim x) (lim y)) (lim (Nat.gcd x y), 0) := by
  have lx := len_le.2 hx
  have ly := len_le.2 hy
  unfold nat_Gcd.f
  simp only [right_eq (lim x) (by omega), right_eq (lim y) (by omega), right_lim hx, right_lim hy, Option.bind_some, if_true, Bool.not_true]
  refine Ev.step (fun f => nat_Gcd.j0.eq_2 _ _ _ f) ?_
  simp only [Bool.false_eq_true, if_false]
  exact gcd_l0 y x y (Nat.le_refl _) (by omega) (by omega)
end Go.Proofs.YtmndbhgbngkakaaDoor.F
end
section
/- The document's answer: twice, half, even, in numbers. No condition beyond the lists' lengths. -/
namespace Go.Proofs.YtmndbhgbngkakaaDoor.R

set_option linter.all false
open Go.RowKit Go.Proofs.YtmndbhgbngkakaaDoor.K Go.Proofs.YtmndbhgbngkakaaDoorW.PrintWords Go.Proofs.YtmndbhgbngkakaaDoorW.PrintLast Go.Proofs.YtmndbhgbngkakaaDoorW.PrintMore Go.Proofs.YtmndbhgbngkakaaDoor.M Go.Proofs.YtmndbhgbngkakaaDoor.F


def tw : List Int → Int → List Int
  | [], c => if c > 0 then [c] else []
  | x :: t, c => (x * 2 % 4294967296 + c) :: tw t (x / 2147483648)
end Go.Proofs.YtmndbhgbngkakaaDoor.R
end
section
/- The document's answer: Div and Gcd, in numbers. No condition beyond the lists' lengths. -/
namespace Go.Proofs.YtmndbhgbngkakaaDoor.R

set_option linter.all false
open Go.RowKit Go.Proofs.YtmndbhgbngkakaaDoor.K Go.Proofs.YtmndbhgbngkakaaDoorW.PrintWords Go.Proofs.YtmndbhgbngkakaaDoorW.PrintLast Go.Proofs.YtmndbhgbngkakaaDoorW.PrintMore Go.Proofs.YtmndbhgbngkakaaDoor.M Go.Proofs.YtmndbhgbngkakaaDoor.F

end Go.Proofs.YtmndbhgbngkakaaDoor.R
end
section
/- The document's answer: Gcd, in numbers. No condition beyond the lists' lengths. -/
namespace Go.Proofs.YtmndbhgbngkakaaDoor.R

set_option linter.all false
open Go.RowKit Go.Proofs.YtmndbhgbngkakaaDoor.K Go.Proofs.YtmndbhgbngkakaaDoorW.PrintWords Go.Proofs.YtmndbhgbngkakaaDoorW.PrintLast Go.Proofs.YtmndbhgbngkakaaDoorW.PrintMore Go.Proofs.YtmndbhgbngkakaaDoor.M Go.Proofs.YtmndbhgbngkakaaDoor.F

end Go.Proofs.YtmndbhgbngkakaaDoor.R
end
section
/- Texts: what the program writes and reads, in numbers. No condition beyond the lists' lengths. -/
namespace Go.Proofs.YtmndbhgbngkakaaDoor.F

set_option linter.all false
open Go.RowKit Go.Proofs.YtmndbhgbngkakaaDoor.K Go.Proofs.YtmndbhgbngkakaaDoorW.PrintWords Go.Proofs.YtmndbhgbngkakaaDoorW.PrintLast Go.Proofs.YtmndbhgbngkakaaDoorW.PrintMore Go.Proofs.YtmndbhgbngkakaaDoor.M

def Dg (l : List UInt8) : Prop := ∀ b ∈ l, 48 ≤ b.toNat ∧ b.toNat ≤ 57
def dval : List UInt8 → Nat → Nat
  | [], a => a
  | b :: t, a => dval t (10 * a + (b.toNat - 48))
def blk (r : Nat) : List UInt8 := [100000000, 10000000, 1000000, 100000, 10000, 1000, 100, 10, 1].map fun q => UInt8.ofNat (48 + r / q % 10)
end Go.Proofs.YtmndbhgbngkakaaDoor.F
end
section
/- Texts: reading any text, by the program and by the document. No condition beyond the lists' lengths. -/
namespace Go.Proofs.YtmndbhgbngkakaaDoor.F

set_option linter.all false
open Go.RowKit Go.Proofs.YtmndbhgbngkakaaDoor.K Go.Proofs.YtmndbhgbngkakaaDoorW.PrintWords Go.Proofs.YtmndbhgbngkakaaDoorW.PrintLast Go.Proofs.YtmndbhgbngkakaaDoorW.PrintMore Go.Proofs.YtmndbhgbngkakaaDoor.M

/-- What a text of digits is read as. -/
def num (v : Nat) : List Int × Int := if v < 4294967296 ^ 64 then (lim v, 0) else ([], 6)
theorem drop_nil (p : UInt8 → Bool) : ∀ l : List UInt8, l.dropWhile p = [] → ∀ b ∈ l, p b = true
  | [], _, _, h => by cases h
  | c :: t, h, b, hb => by
    by_cases e : p c = true
    · rw [List.dropWhile_cons_of_pos e] at h
      rcases List.mem_cons.1 hb with rfl | hb
      · exact e
      · exact drop_nil p t h b hb
    · rw [List.dropWhile_cons_of_neg e] at h
      cases h
instance (l : List UInt8) : Decidable (Dg l) := inferInstanceAs (Decidable (∀ b ∈ l, 48 ≤ b.toNat ∧ b.toNat ≤ 57))
/-- What any text is read as. -/
def said (l : List UInt8) : List Int × Int := if l = [] ∨ (l.getD 0 0 = 48 ∧ 1 < l.length) ∨ ¬ Dg l then ([], 2) else num (dval l 0)
end Go.Proofs.YtmndbhgbngkakaaDoor.F
end
section
/- Texts: the document's reading of any text. No condition beyond the lists' lengths. -/
namespace Go.Proofs.YtmndbhgbngkakaaDoor.F

set_option linter.all false
open Go.RowKit Go.Proofs.YtmndbhgbngkakaaDoor.K Go.Proofs.YtmndbhgbngkakaaDoorW.PrintWords Go.Proofs.YtmndbhgbngkakaaDoorW.PrintLast Go.Proofs.YtmndbhgbngkakaaDoorW.PrintMore Go.Proofs.YtmndbhgbngkakaaDoor.M

end Go.Proofs.YtmndbhgbngkakaaDoor.F
end
section
/- Texts: the document's writing, and that both write alike. No condition beyond the lists' lengths. -/
namespace Go.Proofs.YtmndbhgbngkakaaDoor.F

set_option linter.all false
open Go.RowKit Go.Proofs.YtmndbhgbngkakaaDoor.K Go.Proofs.YtmndbhgbngkakaaDoorW.PrintWords Go.Proofs.YtmndbhgbngkakaaDoorW.PrintLast Go.Proofs.YtmndbhgbngkakaaDoorW.PrintMore Go.Proofs.YtmndbhgbngkakaaDoor.M

end Go.Proofs.YtmndbhgbngkakaaDoor.F
end
section
/- Texts: the document's writing. No condition beyond the lists' lengths. -/
namespace Go.Proofs.YtmndbhgbngkakaaDoor.F

set_option linter.all false
open Go.RowKit Go.Proofs.YtmndbhgbngkakaaDoor.K Go.Proofs.YtmndbhgbngkakaaDoorW.PrintWords Go.Proofs.YtmndbhgbngkakaaDoorW.PrintLast Go.Proofs.YtmndbhgbngkakaaDoorW.PrintMore Go.Proofs.YtmndbhgbngkakaaDoor.M

end Go.Proofs.YtmndbhgbngkakaaDoor.F
end
section
/- Numbers of 64 and of 128 bits, on both sides. No condition. -/
namespace Go.Proofs.YtmndbhgbngkakaaDoor.F

set_option linter.all false
open Go.RowKit Go.Proofs.YtmndbhgbngkakaaDoor.K Go.Proofs.YtmndbhgbngkakaaDoorW.PrintWords Go.Proofs.YtmndbhgbngkakaaDoorW.PrintLast Go.Proofs.YtmndbhgbngkakaaDoorW.PrintMore Go.Proofs.YtmndbhgbngkakaaDoor.M

end Go.Proofs.YtmndbhgbngkakaaDoor.F
end
section
/- Fractions of naturals, in lowest terms: plain arithmetic. No condition. -/
namespace Go.Proofs.YtmndbhgbngkakaaDoor.Q
set_option linter.all false
/-- In lowest terms. -/
def red (n d : Nat) : Nat × Nat := (n / Nat.gcd n d, d / Nat.gcd n d)
/-- A fraction: the second limb is above 0, and nothing goes in both. -/
def Fr (n d : Nat) : Prop := 0 < d ∧ Nat.gcd n d = 1
theorem gcd_pos {n d : Nat} (h : 0 < d) : 0 < Nat.gcd n d := Nat.gcd_pos_of_pos_right _ h
theorem red_fst (n d : Nat) : (red n d).1 * Nat.gcd n d = n := Nat.div_mul_cancel (Nat.gcd_dvd_left n d)
theorem red_snd (n d : Nat) : (red n d).2 * Nat.gcd n d = d := Nat.div_mul_cancel (Nat.gcd_dvd_right n d)
theorem red_fr {n d : Nat} (h : 0 < d) : Fr (red n d).1 (red n d).2 := by
  refine ⟨?_, Nat.coprime_div_gcd_div_gcd (gcd_pos h)⟩
  rcases Nat.eq_zero_or_pos (red n d).2 with c | c
  · have := red_snd n d
    rw [c, Nat.zero_mul] at this
    omega
  · exact c
theorem red_cross {n d : Nat} (h : 0 < d) : (red n d).1 * d = n * (red n d).2 := by
  have e1 := red_fst n d
  have e2 := red_snd n d
  calc (red n d).1 * d = (red n d).1 * ((red n d).2 * Nat.gcd n d) := by rw [e2]
    _ = ((red n d).1 * Nat.gcd n d) * (red n d).2 := by rw [Nat.mul_comm (red n d).2, Nat.mul_assoc]
    _ = n * (red n d).2 := by rw [e1]
theorem fr_ext {a b c d : Nat} (h : Fr a b) (k : Fr c d) (e : a * d = c * b) : a = c ∧ b = d := by
  have b1 : b ∣ d := by
    have : b ∣ a * d := ⟨c, by rw [e, Nat.mul_comm]⟩
    exact (Nat.Coprime.symm h.2).dvd_of_dvd_mul_left this
  have b2 : d ∣ b := by
    have : d ∣ c * b := ⟨a, by rw [← e, Nat.mul_comm]⟩
    exact (Nat.Coprime.symm k.2).dvd_of_dvd_mul_left this
  have eb := Nat.dvd_antisymm b1 b2
  subst eb
  exact ⟨Nat.eq_of_mul_eq_mul_right h.1 e, rfl⟩
/-- Two fractions that have one cross product are one in lowest terms. -/
theorem red_eq {a b c d : Nat} (h : 0 < b) (k : 0 < d) (e : a * d = c * b) : red a b = red c d := by
  have h1 := red_cross (n := a) h
  have h2 := red_cross (n := c) k
  have e3 : (red a b).1 * (red c d).2 = (red c d).1 * (red a b).2 := by
    have p : 0 < b * d := Nat.mul_pos h k
    refine Nat.eq_of_mul_eq_mul_right p ?_
    calc (red a b).1 * (red c d).2 * (b * d) = ((red a b).1 * b) * ((red c d).2 * d) := by simp only [Nat.mul_comm, Nat.mul_left_comm, Nat.mul_assoc]
      _ = (a * (red a b).2) * ((red c d).2 * d) := by rw [h1]
      _ = (a * d) * ((red a b).2 * (red c d).2) := by simp only [Nat.mul_comm, Nat.mul_left_comm, Nat.mul_assoc]
      _ = (c * b) * ((red a b).2 * (red c d).2) := by rw [e]
      _ = (c * (red c d).2) * ((red a b).2 * b) := by simp only [Nat.mul_comm, Nat.mul_left_comm, Nat.mul_assoc]
      _ = ((red c d).1 * d) * ((red a b).2 * b) := by rw [h2]
      _ = (red c d).1 * (red a b).2 * (b * d) := by simp only [Nat.mul_comm, Nat.mul_left_comm, Nat.mul_assoc]
  have := fr_ext (red_fr h) (red_fr k) e3
  exact Prod.ext this.1 this.2
end Go.Proofs.YtmndbhgbngkakaaDoor.Q
end
section
/- Sums, differences, products and quotients of fractions in lowest terms: plain arithmetic. No condition. -/
namespace Go.Proofs.YtmndbhgbngkakaaDoor.Q
set_option linter.all false
/-- Half of a sum: m = (a + b) / 2, as far from both. -/
theorem mid (a b c d n m : Nat) (hb : 0 < b) (hd : 0 < d) (hm : 0 < m) (le : a * d ≤ c * b) (x : n * (2 * (b * d)) = (a * d + c * b) * m) :
    a * m ≤ n * b ∧ n * d ≤ c * m ∧ red (n * b - a * m) (m * b) = red (c * m - n * d) (d * m) := by
  have l1 : a * m ≤ n * b := by
    refine Nat.le_of_mul_le_mul_left (c := 2 * d) ?_ (by omega)
    have e1 : 2 * d * (n * b) = n * (2 * (b * d)) := by grind
    have e2 : 2 * d * (a * m) = (a * d) * m + (a * d) * m := by grind
    have e3 : (a * d + c * b) * m = (a * d) * m + (c * b) * m := Nat.add_mul _ _ _
    have e4 := Nat.mul_le_mul_right m le
    omega
  have l2 : n * d ≤ c * m := by
    refine Nat.le_of_mul_le_mul_left (c := 2 * b) ?_ (by omega)
    have e1 : 2 * b * (n * d) = n * (2 * (b * d)) := by grind
    have e2 : 2 * b * (c * m) = (c * b) * m + (c * b) * m := by grind
    have e3 : (a * d + c * b) * m = (a * d) * m + (c * b) * m := Nat.add_mul _ _ _
    have e4 := Nat.mul_le_mul_right m le
    omega
  refine ⟨l1, l2, red_eq (Nat.mul_pos hm hb) (Nat.mul_pos hd hm) ?_⟩
  obtain ⟨s, hs⟩ := Nat.exists_eq_add_of_le l1
  obtain ⟨t, ht⟩ := Nat.exists_eq_add_of_le l2
  rw [hs, ht, Nat.add_sub_cancel_left, Nat.add_sub_cancel_left]
  have e : s * d = t * b := by
    have e1 : d * (n * b) = d * (a * m) + s * d := by rw [hs, Nat.mul_add, Nat.mul_comm d s]
    have e2 : b * (c * m) = b * (n * d) + t * b := by rw [ht, Nat.mul_add, Nat.mul_comm b t]
    have e3 : n * (2 * (b * d)) = d * (n * b) + b * (n * d) := by grind
    have e4 : (a * d + c * b) * m = d * (a * m) + b * (c * m) := by grind
    omega
  grind
end Go.Proofs.YtmndbhgbngkakaaDoor.Q
end
