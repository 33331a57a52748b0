/- Plain lemmas on limbs (lists of numbers below 2^32): their value, the limbs of a number, what trimming does. No condition. -/
import Derived.Laws.BitsLemmas
import Derived.Laws.Bits64
import Derived.RowKit
namespace Go.Proofs.YtdgbeejhccogpaaDoor.M
open Go.RowKit

/-- The value of limbs, the lowest first. -/
def val : List Int → Int
  | [] => 0
  | x :: t => x + 4294967296 * val t
/-- Limbs of 32 bits. -/
def W (l : List Int) : Prop := ∀ x ∈ l, 0 ≤ x ∧ x < 4294967296
/-- The limbs of a number. -/
def lim (n : Nat) : List Int := if n = 0 then [] else ((n % 4294967296 : Nat) : Int) :: lim (n / 4294967296)
termination_by n
decreasing_by omega

theorem W.nil : W [] := fun _ h => by cases h
theorem W.cons {x : Int} {t : List Int} (h0 : 0 ≤ x) (h1 : x < 4294967296) (h : W t) : W (x :: t) := fun y hy => by
  rcases List.mem_cons.1 hy with rfl | hy
  · exact ⟨h0, h1⟩
  · exact h y hy
theorem W.head {x : Int} {t : List Int} (h : W (x :: t)) : 0 ≤ x ∧ x < 4294967296 := h x List.mem_cons_self
theorem W.tail {x : Int} {t : List Int} (h : W (x :: t)) : W t := fun y hy => h y (List.mem_cons_of_mem _ hy)
theorem W.append {a b : List Int} (ha : W a) (hb : W b) : W (a ++ b) := fun y hy => by
  rcases List.mem_append.1 hy with h | h
  · exact ha y h
  · exact hb y h
theorem W.take {a : List Int} (ha : W a) (n : Nat) : W (a.take n) := fun y hy => ha y (List.mem_of_mem_take hy)
theorem W.drop {a : List Int} (ha : W a) (n : Nat) : W (a.drop n) := fun y hy => ha y (List.mem_of_mem_drop hy)
theorem W.left {a b : List Int} (h : W (a ++ b)) : W a := fun y hy => h y (List.mem_append_left _ hy)
theorem W.right {a b : List Int} (h : W (a ++ b)) : W b := fun y hy => h y (List.mem_append_right _ hy)
theorem W.replicate (n : Nat) : W (List.replicate n 0) := fun y hy => by
  have := List.eq_of_mem_replicate hy
  omega
theorem W.set {a : List Int} (ha : W a) (i : Nat) {v : Int} (h0 : 0 ≤ v) (h1 : v < 4294967296) : W (a.set i v) := fun y hy => by
  rcases List.mem_or_eq_of_mem_set hy with h | rfl
  · exact ha y h
  · exact ⟨h0, h1⟩
theorem W.getD {a : List Int} (ha : W a) (i : Nat) : 0 ≤ a.getD i 0 ∧ a.getD i 0 < 4294967296 := by
  by_cases h : i < a.length
  · have := ha _ (List.getElem_mem h)
    simp [List.getD, h]
    exact this
  · simp [List.getD, List.getElem?_eq_none (Nat.le_of_not_lt h)]

theorem val_nonneg {l : List Int} (h : W l) : 0 ≤ val l := by
  induction l with
  | nil => exact Int.le_refl 0
  | cons x t ih =>
    have h1 := h.head
    have h2 := ih h.tail
    simp only [val]
    omega
theorem val_replicate (n : Nat) : val (List.replicate n 0) = 0 := by
  induction n with
  | zero => rfl
  | succ n ih => simp only [List.replicate_succ, val, ih]; omega
theorem val_append (a b : List Int) : val (a ++ b) = val a + 4294967296 ^ a.length * val b := by
  induction a with
  | nil => simp [val]
  | cons x t ih =>
    simp only [List.cons_append, val, ih, List.length_cons]
    rw [Int.mul_add, ← Int.mul_assoc, show (4294967296 : Int) ^ (t.length + 1) = 4294967296 * 4294967296 ^ t.length from by rw [Int.pow_succ, Int.mul_comm]]
    omega
theorem pow_pos (n : Nat) : (0 : Int) < 4294967296 ^ n := Int.pow_pos (by decide)
theorem pow_succ (n : Nat) : (4294967296 : Int) ^ (n + 1) = 4294967296 * 4294967296 ^ n := by rw [Int.pow_succ, Int.mul_comm]
theorem val_lt {l : List Int} (h : W l) : val l < 4294967296 ^ l.length := by
  induction l with
  | nil => simp [val]
  | cons x t ih =>
    have h1 := h.head
    have h2 := ih h.tail
    simp only [val, List.length_cons, pow_succ]
    omega

theorem pow_cast (n : Nat) : ((4294967296 ^ n : Nat) : Int) = 4294967296 ^ n := by rw [Int.natCast_pow]; rfl
theorem lt_pow {x n : Nat} (h : x < 4294967296 ^ n) : (x : Int) < 4294967296 ^ n := by rw [← pow_cast]; exact Int.ofNat_lt.2 h
theorem pow_lt {x n : Nat} (h : (x : Int) < 4294967296 ^ n) : x < 4294967296 ^ n := by rw [← pow_cast] at h; exact Int.ofNat_lt.1 h
theorem lim_zero : lim 0 = [] := by rw [lim]; rfl
theorem lim_pos {n : Nat} (h : n ≠ 0) : lim n = ((n % 4294967296 : Nat) : Int) :: lim (n / 4294967296) := by rw [lim, if_neg h]
theorem W_lim (n : Nat) : W (lim n) := by
  induction n using Nat.strongRecOn with
  | _ n ih =>
    by_cases h : n = 0
    · subst h; rw [lim_zero]; exact W.nil
    · rw [lim_pos h]
      exact W.cons (by omega) (by omega) (ih _ (by omega))
theorem val_lim (n : Nat) : val (lim n) = n := by
  induction n using Nat.strongRecOn with
  | _ n ih =>
    by_cases h : n = 0
    · subst h; rw [lim_zero]; rfl
    · rw [lim_pos h, val, ih _ (by omega)]
      omega
theorem lim_eq_nil {n : Nat} : lim n = [] ↔ n = 0 := by
  constructor
  · intro h
    by_cases h0 : n = 0
    · exact h0
    · rw [lim_pos h0] at h; cases h
  · rintro rfl; exact lim_zero

/-- Without the noughts at the end. -/
def trimL : List Int → List Int
  | [] => []
  | x :: t => if trimL t = [] ∧ x = 0 then [] else x :: trimL t
theorem trimL_lim {l : List Int} (h : W l) : trimL l = lim (val l).toNat := by
  induction l with
  | nil => simp [trimL, val, lim_zero]
  | cons x t ih =>
    have h1 := h.head
    have h2 := ih h.tail
    have h3 := val_nonneg h.tail
    rw [trimL, h2]
    simp only [lim_eq_nil, val]
    by_cases c : (val t).toNat = 0 ∧ x = 0
    · rw [if_pos c]
      obtain ⟨c1, c2⟩ := c
      rw [show (x + 4294967296 * val t).toNat = 0 from by omega, lim_zero]
    · rw [if_neg c]
      have hne : (x + 4294967296 * val t).toNat ≠ 0 := by omega
      rw [lim_pos hne]
      congr 1
      · omega
      · congr 1
        omega
theorem trimL_snoc (t : List Int) : trimL (t ++ [0]) = trimL t := by
  induction t with
  | nil => simp [trimL]
  | cons x t ih => simp only [List.cons_append, trimL, ih]
theorem trimL_snoc_ne (t : List Int) {x : Int} (hx : x ≠ 0) : trimL (t ++ [x]) = t ++ [x] := by
  induction t with
  | nil => simp [trimL, hx]
  | cons y t ih =>
    simp only [List.cons_append, trimL, ih]
    rw [if_neg]
    intro h
    simp at h
/-- The last limb isn't 0. -/
def Cano (l : List Int) : Prop := l = [] ∨ ∃ t x, l = t ++ [x] ∧ x ≠ 0
theorem can_trim {l : List Int} (h : Cano l) : trimL l = l := by
  rcases h with rfl | ⟨t, x, rfl, hx⟩
  · rfl
  · exact trimL_snoc_ne t hx
theorem can_lim {l : List Int} (hw : W l) (h : Cano l) : l = lim (val l).toNat := by
  have := trimL_lim hw
  rw [can_trim h] at this
  exact this
theorem snoc_of {l : List Int} (h : 0 < l.length) : ∃ t x, l = t ++ [x] ∧ l.getD (l.length - 1) 0 = x ∧ t.length = l.length - 1 := by
  refine ⟨l.take (l.length - 1), l.getD (l.length - 1) 0, ?_, rfl, by rw [List.length_take]; omega⟩
  have e : l.take (l.length - 1 + 1) = l.take (l.length - 1) ++ [l[l.length - 1]'(by omega)] := List.take_succ_eq_append_getElem (by omega)
  rw [show l.length - 1 + 1 = l.length from by omega, List.take_length] at e
  simp only [List.getD, List.getElem?_eq_getElem (show l.length - 1 < l.length from by omega), Option.getD_some]
  exact e
theorem can_of {l : List Int} (h : 0 < l.length → l.getD (l.length - 1) 0 ≠ 0) : Cano l := by
  by_cases hl : 0 < l.length
  · obtain ⟨t, x, e, hx, _⟩ := snoc_of hl
    exact .inr ⟨t, x, e, hx ▸ h hl⟩
  · exact .inl (List.eq_nil_of_length_eq_zero (by omega))
theorem lim_can (n : Nat) : Cano (lim n) := by
  induction n using Nat.strongRecOn with
  | _ n ih =>
    by_cases h : n = 0
    · subst h; rw [lim_zero]; exact .inl rfl
    · rw [lim_pos h]
      by_cases h2 : n / 4294967296 = 0
      · rw [h2, lim_zero]
        exact .inr ⟨[], _, rfl, by omega⟩
      · rcases ih _ (show n / 4294967296 < n by omega) with e | ⟨t, x, e, hx⟩
        · exact absurd (lim_eq_nil.1 e) h2
        · rw [e]
          exact .inr ⟨_ :: t, x, rfl, hx⟩
theorem last_ne {l : List Int} (h : Cano l) (hl : 0 < l.length) : l.getD (l.length - 1) 0 ≠ 0 := by
  rcases h with rfl | ⟨t, x, rfl, hx⟩
  · simp at hl
  · simp [List.getD, hx]
/-- Canonical limbs, by their value. -/
theorem lim_ext {a b : List Int} (ha : W a) (ha' : Cano a) (hb : W b) (hb' : Cano b) (h : val a = val b) : a = b := by
  rw [can_lim ha ha', can_lim hb hb', h]
theorem lim_inj {m n : Nat} (h : lim m = lim n) : m = n := by
  have := congrArg val h
  rw [val_lim, val_lim] at this
  omega
theorem len_le {n m : Nat} : (lim n).length ≤ m ↔ n < 4294967296 ^ m := by
  induction m generalizing n with
  | zero =>
    by_cases h : n = 0
    · subst h; simp [lim_zero]
    · rw [lim_pos h]; simp; omega
  | succ m ih =>
    by_cases h : n = 0
    · subst h; simp [lim_zero, Nat.pow_pos]
    · rw [lim_pos h, List.length_cons, Nat.pow_succ]
      have := ih (n := n / 4294967296)
      rw [Nat.div_lt_iff_lt_mul (by decide)] at this
      omega
theorem len_lt {n m : Nat} : m < (lim n).length ↔ 4294967296 ^ m ≤ n := by
  have := len_le (n := n) (m := m)
  omega
theorem len_mono {m n : Nat} (h : m ≤ n) : (lim m).length ≤ (lim n).length := len_le.2 (Nat.lt_of_le_of_lt h (len_le.1 (Nat.le_refl _)))
theorem lt_of_len {m n : Nat} (h : (lim m).length < (lim n).length) : m < n := by
  rcases Nat.lt_or_ge m n with h' | h'
  · exact h'
  · have := len_mono h'; omega

/-! ### small arithmetic of the printed text -/
theorem wrap64_in {n : Int} (h0 : -9223372036854775808 ≤ n) (h1 : n < 9223372036854775808) : wrap64 n = n := by unfold wrap64; omega
theorem u64_in {n : Int} (h0 : 0 ≤ n) (h1 : n < 18446744073709551616) : IntKind.u64.wrap n = n := by rw [IntKind.wrap_u64]; omega
theorem u64_low {n : Int} (h0 : n < 0) (h1 : -18446744073709551616 ≤ n) : IntKind.u64.wrap n = n + 18446744073709551616 := by rw [IntKind.wrap_u64]; omega
theorem tdiv_pos {a b : Int} (h : 0 ≤ a) : Int.tdiv a b = a / b := Int.tdiv_eq_ediv_of_nonneg h
theorem tmod_pos {a b : Int} (h : 0 ≤ a) : Int.tmod a b = a % b := Int.tmod_eq_emod_of_nonneg h
theorem wraps_u64 (n : Int) (h₀ : 0 ≤ n) (h₁ : n < 2 ^ 64) : IntKind.u64.wrap n = n := by rw [IntKind.wrap_u64]; omega
theorem wraps_u32 (n : Int) (h₀ : 0 ≤ n) (h₁ : n < 2 ^ 32) : IntKind.u32.wrap n = n := by rw [IntKind.wrap_u32]; omega
end Go.Proofs.YtdgbeejhccogpaaDoor.M
