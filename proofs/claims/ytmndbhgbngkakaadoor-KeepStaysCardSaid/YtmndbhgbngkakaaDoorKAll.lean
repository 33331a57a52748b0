/- Several texts of one claim in one file: YtmndbhgbngkakaaDoorKM, YtmndbhgbngkakaaDoorKC, YtmndbhgbngkakaaDoorKF1, YtmndbhgbngkakaaDoorKF2, YtmndbhgbngkakaaDoorKF3, YtmndbhgbngkakaaDoorKR1, YtmndbhgbngkakaaDoorKR2, YtmndbhgbngkakaaDoorKR3, YtmndbhgbngkakaaDoorKB1, YtmndbhgbngkakaaDoorKD1, YtmndbhgbngkakaaDoorKD2, YtmndbhgbngkakaaDoorKD3, YtmndbhgbngkakaaDoorKD4, YtmndbhgbngkakaaDoorKD5, YtmndbhgbngkakaaDoorKD6, YtmndbhgbngkakaaDoorKR4, YtmndbhgbngkakaaDoorKR5, YtmndbhgbngkakaaDoorKR6, YtmndbhgbngkakaaDoorKT1, YtmndbhgbngkakaaDoorKT2, YtmndbhgbngkakaaDoorKT3, YtmndbhgbngkakaaDoorKT4, YtmndbhgbngkakaaDoorKT5, YtmndbhgbngkakaaDoorKT6, YtmndbhgbngkakaaDoorQ0, YtmndbhgbngkakaaDoorQ1. No condition. -/
import Derived.Laws.BitsLemmas
import Derived.Laws.Bits64
import Derived.RowKit
import Derived.Test.YtmndbhgbngkakaaDoorKx0
import Derived.Laws.Strings
import Derived.KernelRfl
section
/- Plain lemmas on limbs (lists of numbers below 2^32): their value, the limbs of a number, what trimming does. No condition. -/
namespace Go.Proofs.YtmndbhgbngkakaaDoor.M
open Go.RowKit

/-- The value of limbs, the lowest first. -/
def val : List Int → Int
  | [] => 0
  | x :: t => x + 4294967296 * val t
/-- Limbs of 32 bits. -/
def W (l : List Int) : Prop := ∀ x ∈ l, 0 ≤ x ∧ x < 4294967296
/-- The limbs of a number. -/
def lim (n : Nat) : List Int := if n = 0 then [] else ((n % 4294967296 : Nat) : Int) :: lim (n / 4294967296)
termination_by n
decreasing_by omega

theorem W.nil : W [] := fun _ h => by cases h
theorem W.cons {x : Int} {t : List Int} (h0 : 0 ≤ x) (h1 : x < 4294967296) (h : W t) : W (x :: t) := fun y hy => by
  rcases List.mem_cons.1 hy with rfl | hy
  · exact ⟨h0, h1⟩
  · exact h y hy
theorem W.head {x : Int} {t : List Int} (h : W (x :: t)) : 0 ≤ x ∧ x < 4294967296 := h x List.mem_cons_self
theorem W.tail {x : Int} {t : List Int} (h : W (x :: t)) : W t := fun y hy => h y (List.mem_cons_of_mem _ hy)
theorem W.append {a b : List Int} (ha : W a) (hb : W b) : W (a ++ b) := fun y hy => by
  rcases List.mem_append.1 hy with h | h
  · exact ha y h
  · exact hb y h
theorem W.take {a : List Int} (ha : W a) (n : Nat) : W (a.take n) := fun y hy => ha y (List.mem_of_mem_take hy)
theorem W.drop {a : List Int} (ha : W a) (n : Nat) : W (a.drop n) := fun y hy => ha y (List.mem_of_mem_drop hy)
theorem W.left {a b : List Int} (h : W (a ++ b)) : W a := fun y hy => h y (List.mem_append_left _ hy)
theorem W.right {a b : List Int} (h : W (a ++ b)) : W b := fun y hy => h y (List.mem_append_right _ hy)
theorem W.replicate (n : Nat) : W (List.replicate n 0) := fun y hy => by
  have := List.eq_of_mem_replicate hy
  omega
theorem W.set {a : List Int} (ha : W a) (i : Nat) {v : Int} (h0 : 0 ≤ v) (h1 : v < 4294967296) : W (a.set i v) := fun y hy => by
  rcases List.mem_or_eq_of_mem_set hy with h | rfl
  · exact ha y h
  · exact ⟨h0, h1⟩
theorem W.getD {a : List Int} (ha : W a) (i : Nat) : 0 ≤ a.getD i 0 ∧ a.getD i 0 < 4294967296 := by
  by_cases h : i < a.length
  · have := ha _ (List.getElem_mem h)
    simp [List.getD, h]
    exact this
  · simp [List.getD, List.getElem?_eq_none (Nat.le_of_not_lt h)]

theorem val_nonneg {l : List Int} (h : W l) : 0 ≤ val l := by
  induction l with
  | nil => exact Int.le_refl 0
  | cons x t ih =>
    have h1 := h.head
    have h2 := ih h.tail
    simp only [val]
    omega
theorem pow_pos (n : Nat) : (0 : Int) < 4294967296 ^ n := Int.pow_pos (by decide)
theorem pow_succ (n : Nat) : (4294967296 : Int) ^ (n + 1) = 4294967296 * 4294967296 ^ n := by rw [Int.pow_succ, Int.mul_comm]

theorem lim_zero : lim 0 = [] := by rw [lim]; rfl
theorem lim_pos {n : Nat} (h : n ≠ 0) : lim n = ((n % 4294967296 : Nat) : Int) :: lim (n / 4294967296) := by rw [lim, if_neg h]
theorem lim_eq_nil {n : Nat} : lim n = [] ↔ n = 0 := by
  constructor
  · intro h
    by_cases h0 : n = 0
    · exact h0
    · rw [lim_pos h0] at h; cases h
  · rintro rfl; exact lim_zero

/-- Without the noughts at the end. -/
def trimL : List Int → List Int
  | [] => []
  | x :: t => if trimL t = [] ∧ x = 0 then [] else x :: trimL t
theorem trimL_lim {l : List Int} (h : W l) : trimL l = lim (val l).toNat := by
  induction l with
  | nil => simp [trimL, val, lim_zero]
  | cons x t ih =>
    have h1 := h.head
    have h2 := ih h.tail
    have h3 := val_nonneg h.tail
    rw [trimL, h2]
    simp only [lim_eq_nil, val]
    by_cases c : (val t).toNat = 0 ∧ x = 0
    · rw [if_pos c]
      obtain ⟨c1, c2⟩ := c
      rw [show (x + 4294967296 * val t).toNat = 0 from by omega, lim_zero]
    · rw [if_neg c]
      have hne : (x + 4294967296 * val t).toNat ≠ 0 := by omega
      rw [lim_pos hne]
      congr 1
      · omega
      · congr 1
        omega
theorem trimL_snoc_ne (t : List Int) {x : Int} (hx : x ≠ 0) : trimL (t ++ [x]) = t ++ [x] := by
  induction t with
  | nil => simp [trimL, hx]
  | cons y t ih =>
    simp only [List.cons_append, trimL, ih]
    rw [if_neg]
    intro h
    simp at h
/-- The last limb isn't 0. -/
def Cano (l : List Int) : Prop := l = [] ∨ ∃ t x, l = t ++ [x] ∧ x ≠ 0
theorem can_trim {l : List Int} (h : Cano l) : trimL l = l := by
  rcases h with rfl | ⟨t, x, rfl, hx⟩
  · rfl
  · exact trimL_snoc_ne t hx
theorem can_lim {l : List Int} (hw : W l) (h : Cano l) : l = lim (val l).toNat := by
  have := trimL_lim hw
  rw [can_trim h] at this
  exact this
theorem snoc_of {l : List Int} (h : 0 < l.length) : ∃ t x, l = t ++ [x] ∧ l.getD (l.length - 1) 0 = x ∧ t.length = l.length - 1 := by
  refine ⟨l.take (l.length - 1), l.getD (l.length - 1) 0, ?_, rfl, by rw [List.length_take]; omega⟩
  have e : l.take (l.length - 1 + 1) = l.take (l.length - 1) ++ [l[l.length - 1]'(by omega)] := List.take_succ_eq_append_getElem (by omega)
  rw [show l.length - 1 + 1 = l.length from by omega, List.take_length] at e
  simp only [List.getD, List.getElem?_eq_getElem (show l.length - 1 < l.length from by omega), Option.getD_some]
  exact e
theorem can_of {l : List Int} (h : 0 < l.length → l.getD (l.length - 1) 0 ≠ 0) : Cano l := by
  by_cases hl : 0 < l.length
  · obtain ⟨t, x, e, hx, _⟩ := snoc_of hl
    exact .inr ⟨t, x, e, hx ▸ h hl⟩
  · exact .inl (List.eq_nil_of_length_eq_zero (by omega))
theorem len_le {n m : Nat} : (lim n).length ≤ m ↔ n < 4294967296 ^ m := by
  induction m generalizing n with
  | zero =>
    by_cases h : n = 0
    · subst h; simp [lim_zero]
    · rw [lim_pos h]; simp; omega
  | succ m ih =>
    by_cases h : n = 0
    · subst h; simp [lim_zero, Nat.pow_pos]
    · rw [lim_pos h, List.length_cons, Nat.pow_succ]
      have := ih (n := n / 4294967296)
      rw [Nat.div_lt_iff_lt_mul (by decide)] at this
      omega

/-! ### small arithmetic of the printed text -/
theorem wrap64_in {n : Int} (h0 : -9223372036854775808 ≤ n) (h1 : n < 9223372036854775808) : wrap64 n = n := by unfold wrap64; omega
theorem u64_in {n : Int} (h0 : 0 ≤ n) (h1 : n < 18446744073709551616) : IntKind.u64.wrap n = n := by rw [IntKind.wrap_u64]; omega
end Go.Proofs.YtmndbhgbngkakaaDoor.M
end
section
/- Plain lemmas: digits with a carry, in any base: their value. No condition. -/
namespace Go.Proofs.YtmndbhgbngkakaaDoor.M
set_option linter.all false

/-- The value of digits of a base, the lowest first. -/
def vb (B : Int) : List Int → Int
  | [] => 0
  | x :: t => x + B * vb B t
/-- Digits of a base. -/
def D (B : Int) (l : List Int) : Prop := ∀ x ∈ l, 0 ≤ x ∧ x < B
/-- The sums' value. -/
def vs (B : Int) (s : Nat → Int) : Nat → Nat → Int
  | 0, _ => 0
  | m + 1, i => s i + B * vs B s m (i + 1)
theorem vb_append (B : Int) (a b : List Int) : vb B (a ++ b) = vb B a + B ^ a.length * vb B b := by
  induction a with
  | nil => simp [vb]
  | cons x t ih =>
    simp only [List.cons_append, vb, ih, List.length_cons]
    rw [Int.mul_add, ← Int.mul_assoc, show B ^ (t.length + 1) = B * B ^ t.length from by rw [Int.pow_succ, Int.mul_comm]]
    omega
theorem D.nil (B : Int) : D B [] := fun _ h => by cases h
theorem D.cons {B x : Int} {t : List Int} (h0 : 0 ≤ x) (h1 : x < B) (h : D B t) : D B (x :: t) := fun y hy => by
  rcases List.mem_cons.1 hy with rfl | hy
  · exact ⟨h0, h1⟩
  · exact h y hy
theorem D.append {B : Int} {a b : List Int} (ha : D B a) (hb : D B b) : D B (a ++ b) := fun y hy => by
  rcases List.mem_append.1 hy with h | h
  · exact ha y h
  · exact hb y h
theorem D.take {B : Int} {a : List Int} (ha : D B a) (n : Nat) : D B (a.take n) := fun y hy => ha y (List.mem_of_mem_take hy)
theorem D.drop {B : Int} {a : List Int} (ha : D B a) (n : Nat) : D B (a.drop n) := fun y hy => ha y (List.mem_of_mem_drop hy)
theorem D.getD {B : Int} (hB : 0 < B) {a : List Int} (ha : D B a) (i : Nat) : 0 ≤ a.getD i 0 ∧ a.getD i 0 < B := by
  by_cases h : i < a.length
  · have := ha _ (List.getElem_mem h)
    simp [List.getD, h]
    exact this
  · simp [List.getD, List.getElem?_eq_none (Nat.le_of_not_lt h), hB]
theorem vb_nonneg {B : Int} (hB : 0 < B) {l : List Int} (h : D B l) : 0 ≤ vb B l := by
  induction l with
  | nil => exact Int.le_refl 0
  | cons x t ih =>
    have h1 := h x List.mem_cons_self
    have h2 := ih (fun y hy => h y (List.mem_cons_of_mem _ hy))
    have := Int.mul_nonneg (Int.le_of_lt hB) h2
    simp only [vb]
    omega
theorem vb_lt {B : Int} (hB : 0 < B) {l : List Int} (h : D B l) : vb B l < B ^ l.length := by
  induction l with
  | nil => simp [vb]
  | cons x t ih =>
    have h1 := h x List.mem_cons_self
    have h2 := ih (fun y hy => h y (List.mem_cons_of_mem _ hy))
    have : B * (vb B t + 1) ≤ B * B ^ t.length := Int.mul_le_mul_of_nonneg_left (by omega) (by omega)
    simp only [vb, List.length_cons]
    rw [Int.pow_succ, Int.mul_comm (B ^ t.length) B]
    rw [Int.mul_add] at this
    omega
theorem getD_set_ne (l : List Int) (i j : Nat) (v : Int) (h : i ≠ j) : (l.set i v).getD j 0 = l.getD j 0 := by
  simp [List.getD, List.getElem?_set_ne h]
theorem getD_append_right (a b : List Int) (i : Nat) (h : a.length ≤ i) : (a ++ b).getD i 0 = b.getD (i - a.length) 0 := by
  simp [List.getD, List.getElem?_append_right h]
end Go.Proofs.YtmndbhgbngkakaaDoor.M
end
section
/- What the printed functions of layer nat tell, in numbers: Right, trim, Of, order, sum, less. No condition beyond the lists' lengths. -/
namespace Go.Proofs.YtmndbhgbngkakaaDoor.F

set_option linter.all false
open Go.RowKit Go.Proofs.YtmndbhgbngkakaaDoor.K Go.Proofs.YtmndbhgbngkakaaDoorW.PrintWords Go.Proofs.YtmndbhgbngkakaaDoorW.PrintLast Go.Proofs.YtmndbhgbngkakaaDoorW.PrintMore Go.Proofs.YtmndbhgbngkakaaDoor.M

theorem rd_nat (l : List Int) (n : Nat) : rd l (n : Int) = l.getD n 0 := by simp [rd]




/-- Is it a natural? -/
def rightB (l : List Int) : Bool := decide (l.length ≤ 64 ∧ (l.length = 0 ∨ l.getD (l.length - 1) 0 ≠ 0))
theorem right_can {l : List Int} (h : rightB l = true) : Cano l ∧ l.length ≤ 64 := by
  unfold rightB at h
  have h' := of_decide_eq_true h
  refine ⟨can_of fun h0 => ?_, h'.1⟩
  rcases h'.2 with h2 | h2
  · omega
  · exact h2
/-- A natural is the limbs of a number below 2^2048. -/
theorem right_nat {l : List Int} (hw : W l) (h : rightB l = true) : ∃ n : Nat, l = lim n ∧ n < 4294967296 ^ 64 := by
  obtain ⟨hc, h64⟩ := right_can h
  have e := can_lim hw hc
  refine ⟨(val l).toNat, e, ?_⟩
  rw [e] at h64
  exact len_le.1 h64

/-! ### order -/
end Go.Proofs.YtmndbhgbngkakaaDoor.F
end
section
/- What the printed functions of layer nat tell, in numbers: sums, differences, products, and the calls over them. No condition beyond the lists' lengths. -/
namespace Go.Proofs.YtmndbhgbngkakaaDoor.F

set_option linter.all false
open Go.RowKit Go.Proofs.YtmndbhgbngkakaaDoor.K Go.Proofs.YtmndbhgbngkakaaDoorW.PrintWords Go.Proofs.YtmndbhgbngkakaaDoorW.PrintLast Go.Proofs.YtmndbhgbngkakaaDoorW.PrintMore Go.Proofs.YtmndbhgbngkakaaDoor.M


/-! ### Same -/

/-! ### sum -/

/-! ### less -/
end Go.Proofs.YtmndbhgbngkakaaDoor.F
end
section
/- What the printed functions of layer nat tell, in numbers: products, bits, and the exported calls. No condition beyond the lists' lengths. -/
namespace Go.Proofs.YtmndbhgbngkakaaDoor.F

set_option linter.all false
open Go.RowKit Go.Proofs.YtmndbhgbngkakaaDoor.K Go.Proofs.YtmndbhgbngkakaaDoorW.PrintWords Go.Proofs.YtmndbhgbngkakaaDoorW.PrintLast Go.Proofs.YtmndbhgbngkakaaDoorW.PrintMore Go.Proofs.YtmndbhgbngkakaaDoor.M


/-! ### the exported calls -/
end Go.Proofs.YtmndbhgbngkakaaDoor.F
end
section
/- What the printed functions of the document's answer for layer nat tell, in numbers: Right, Small, Half, Whole, Cmp, Add, Sub. No condition beyond the lists' lengths. -/
namespace Go.Proofs.YtmndbhgbngkakaaDoor.F

set_option linter.all false
open Go.RowKit Go.Proofs.YtmndbhgbngkakaaDoor.K Go.Proofs.YtmndbhgbngkakaaDoorW.PrintWords Go.Proofs.YtmndbhgbngkakaaDoorW.PrintLast Go.Proofs.YtmndbhgbngkakaaDoorW.PrintMore Go.Proofs.YtmndbhgbngkakaaDoor.M


/-! ### halves -/
def hd (a : List Int) (i : Nat) : Int := if i % 2 = 0 then a.getD (i / 2) 0 % 65536 else a.getD (i / 2) 0 / 65536
def hl (a : List Int) : Nat → Nat → List Int
  | 0, _ => []
  | m + 1, i => hd a i :: hl a m (i + 1)

/-! ### wholes -/

/-! ### Cmp -/
end Go.Proofs.YtmndbhgbngkakaaDoor.F
end
section
/- What the printed functions of the document's answer for layer nat tell, in numbers: Add, Sub, Mul, and the laws' own 'told'. No condition beyond the lists' lengths. -/
namespace Go.Proofs.YtmndbhgbngkakaaDoor.F

set_option linter.all false
open Go.RowKit Go.Proofs.YtmndbhgbngkakaaDoor.K Go.Proofs.YtmndbhgbngkakaaDoorW.PrintWords Go.Proofs.YtmndbhgbngkakaaDoorW.PrintLast Go.Proofs.YtmndbhgbngkakaaDoorW.PrintMore Go.Proofs.YtmndbhgbngkakaaDoor.M


/-! ### Add -/

/-! ### Sub -/
end Go.Proofs.YtmndbhgbngkakaaDoor.F
end
section
/- What the printed product of the document's answer for layer nat tells, in numbers. No condition beyond the lists' lengths. -/
namespace Go.Proofs.YtmndbhgbngkakaaDoor.F

set_option linter.all false
open Go.RowKit Go.Proofs.YtmndbhgbngkakaaDoor.K Go.Proofs.YtmndbhgbngkakaaDoorW.PrintWords Go.Proofs.YtmndbhgbngkakaaDoorW.PrintLast Go.Proofs.YtmndbhgbngkakaaDoorW.PrintMore Go.Proofs.YtmndbhgbngkakaaDoor.M

theorem D.set {B : Int} {a : List Int} (ha : D B a) (i : Nat) {v : Int} (h0 : 0 ≤ v) (h1 : v < B) : D B (a.set i v) := fun y hy => by
  rcases List.mem_or_eq_of_mem_set hy with h | rfl
  · exact ha y h
  · exact ⟨h0, h1⟩

/-! ### told -/
end Go.Proofs.YtmndbhgbngkakaaDoor.F
end
section
/- Bits of numbers, and what the printed Bits of both sides tell. No condition beyond the lists' lengths. -/
namespace Go.Proofs.YtmndbhgbngkakaaDoor.M

set_option linter.all false
end Go.Proofs.YtmndbhgbngkakaaDoor.M
namespace Go.Proofs.YtmndbhgbngkakaaDoor.F

set_option linter.all false
open Go.RowKit Go.Proofs.YtmndbhgbngkakaaDoor.K Go.Proofs.YtmndbhgbngkakaaDoorW.PrintWords Go.Proofs.YtmndbhgbngkakaaDoorW.PrintLast Go.Proofs.YtmndbhgbngkakaaDoorW.PrintMore Go.Proofs.YtmndbhgbngkakaaDoor.M

end Go.Proofs.YtmndbhgbngkakaaDoor.F
end
section
/- Division: by one limb; joins of bits. No condition beyond the lists' lengths. -/
namespace Go.Proofs.YtmndbhgbngkakaaDoor.F

set_option linter.all false
open Go.RowKit Go.Proofs.YtmndbhgbngkakaaDoor.K Go.Proofs.YtmndbhgbngkakaaDoorW.PrintWords Go.Proofs.YtmndbhgbngkakaaDoorW.PrintLast Go.Proofs.YtmndbhgbngkakaaDoorW.PrintMore Go.Proofs.YtmndbhgbngkakaaDoor.M

end Go.Proofs.YtmndbhgbngkakaaDoor.F
end
section
/- Division: shifts of limbs. No condition beyond the lists' lengths. -/
namespace Go.Proofs.YtmndbhgbngkakaaDoor.F

set_option linter.all false
open Go.RowKit Go.Proofs.YtmndbhgbngkakaaDoor.K Go.Proofs.YtmndbhgbngkakaaDoorW.PrintWords Go.Proofs.YtmndbhgbngkakaaDoorW.PrintLast Go.Proofs.YtmndbhgbngkakaaDoorW.PrintMore Go.Proofs.YtmndbhgbngkakaaDoor.M

end Go.Proofs.YtmndbhgbngkakaaDoor.F
end
section
/- Division: how often (a guess), away and back. No condition beyond the lists' lengths. -/
namespace Go.Proofs.YtmndbhgbngkakaaDoor.F

set_option linter.all false
open Go.RowKit Go.Proofs.YtmndbhgbngkakaaDoor.K Go.Proofs.YtmndbhgbngkakaaDoorW.PrintWords Go.Proofs.YtmndbhgbngkakaaDoorW.PrintLast Go.Proofs.YtmndbhgbngkakaaDoorW.PrintMore Go.Proofs.YtmndbhgbngkakaaDoor.M

theorem w_add {m n : Nat} (hm : m < 4611686018427387904) (hn : n < 4611686018427387904) : wrap64 ((m : Int) + (n : Int)) = ((m + n : Nat) : Int) := by rw [wrap64_in (by omega) (by omega)]; omega
theorem w_succ {m : Nat} (hm : m < 4611686018427387904) : wrap64 ((m : Int) + 1) = ((m + 1 : Nat) : Int) := by rw [wrap64_in (by omega) (by omega)]; omega
theorem n_nn (m : Nat) : (0 : Int) ≤ ((m : Nat) : Int) := Int.natCast_nonneg m
theorem n_lt {m n : Nat} (h : m < n) : ((m : Nat) : Int) < (n : Int) := Int.ofNat_lt.2 h
end Go.Proofs.YtmndbhgbngkakaaDoor.F
end
section
/- Division: away at a place, and back. No condition beyond the lists' lengths. -/
namespace Go.Proofs.YtmndbhgbngkakaaDoor.F

set_option linter.all false
open Go.RowKit Go.Proofs.YtmndbhgbngkakaaDoor.K Go.Proofs.YtmndbhgbngkakaaDoorW.PrintWords Go.Proofs.YtmndbhgbngkakaaDoorW.PrintLast Go.Proofs.YtmndbhgbngkakaaDoorW.PrintMore Go.Proofs.YtmndbhgbngkakaaDoor.M

theorem idx {k i n m L b : Nat} (h : i + (m + 1) = n) (hb : b = n) (hk : k + n < L) (hL : L < 1099511627776) :
    k + i < L ∧ i + 1 ≤ n ∧ i + 1 + m = n ∧ k + i < k + n + 1 ∧ i < b ∧ wrap64 ((k : Int) + (i : Int)) = ((k + i : Nat) : Int) ∧ wrap64 ((i : Int) + 1) = ((i + 1 : Nat) : Int) ∧ (0 : Int) ≤ ((k + i : Nat) : Int) ∧ ((k + i : Nat) : Int) < (L : Int) ∧ (i : Int) < (n : Int) ∧ (0 : Int) ≤ (i : Int) ∧ (i : Int) < (b : Int) :=
  ⟨by omega, by omega, by omega, by omega, by omega, w_add (by omega) (by omega), w_succ (by omega), n_nn _, n_lt (by omega), n_lt (by omega), n_nn _, n_lt (by omega)⟩
end Go.Proofs.YtmndbhgbngkakaaDoor.F
end
section
/- Division: one step. No condition beyond the lists' lengths. -/
namespace Go.Proofs.YtmndbhgbngkakaaDoor.F

set_option linter.all false
open Go.RowKit Go.Proofs.YtmndbhgbngkakaaDoor.K Go.Proofs.YtmndbhgbngkakaaDoorW.PrintWords Go.Proofs.YtmndbhgbngkakaaDoorW.PrintLast Go.Proofs.YtmndbhgbngkakaaDoorW.PrintMore Go.Proofs.YtmndbhgbngkakaaDoor.M

theorem parts (p S r : List Int) (z : Int) (k n : Nat) (hp : p.length = k) (hS : S.length = n) :
    (p ++ S ++ [z] ++ r).take k = p ∧ (p ++ S ++ [z] ++ r).drop k = S ++ z :: r ∧ (p ++ S ++ [z] ++ r).getD (k + n) 0 = z ∧ (p ++ S ++ [z] ++ r).drop (k + n + 1) = r ∧ ((p ++ S ++ [z] ++ r).drop k).take n = S := by
  have e : p ++ S ++ [z] ++ r = p ++ (S ++ z :: r) := by simp
  have e2 : p ++ S ++ [z] ++ r = (p ++ S ++ [z]) ++ r := rfl
  have l2 : (p ++ S ++ [z]).length = k + n + 1 := by simp [hp, hS]; omega
  refine ⟨?_, ?_, ?_, ?_, ?_⟩
  · rw [e, ← hp, List.take_left]
  · rw [e, ← hp, List.drop_left]
  · rw [e, M.getD_append_right _ _ _ (by omega), M.getD_append_right _ _ _ (by omega)]
    rw [show k + n - p.length - S.length = 0 from by omega]
    rfl
  · rw [← l2, List.drop_left]
  · rw [e, ← hp, List.drop_left, ← hS, List.take_left]
def Good (x y : List Int) (k : Nat) (v : Int) : Prop := W y ∧ y.length = x.length ∧ y.take k = x.take k ∧ val (y.drop k) = v
end Go.Proofs.YtmndbhgbngkakaaDoor.F
end
section
/- Division: by many limbs; Div and Gcd. No condition beyond the lists' lengths. -/
namespace Go.Proofs.YtmndbhgbngkakaaDoor.F

set_option linter.all false
open Go.RowKit Go.Proofs.YtmndbhgbngkakaaDoor.K Go.Proofs.YtmndbhgbngkakaaDoorW.PrintWords Go.Proofs.YtmndbhgbngkakaaDoorW.PrintLast Go.Proofs.YtmndbhgbngkakaaDoorW.PrintMore Go.Proofs.YtmndbhgbngkakaaDoor.M

/-- Not by rfl alone: the kernel must not compare the two sides as programs. -/
theorem ob {α β : Type} (a : α) (f : α → Option β) : (some a).bind f = f a := Eq.trans (Eq.refl _) (Eq.symm (Eq.refl _))
end Go.Proofs.YtmndbhgbngkakaaDoor.F
end
section
/- The document's answer: twice, half, even, in numbers. No condition beyond the lists' lengths. -/
namespace Go.Proofs.YtmndbhgbngkakaaDoor.R

set_option linter.all false
open Go.RowKit Go.Proofs.YtmndbhgbngkakaaDoor.K Go.Proofs.YtmndbhgbngkakaaDoorW.PrintWords Go.Proofs.YtmndbhgbngkakaaDoorW.PrintLast Go.Proofs.YtmndbhgbngkakaaDoorW.PrintMore Go.Proofs.YtmndbhgbngkakaaDoor.M Go.Proofs.YtmndbhgbngkakaaDoor.F


def tw : List Int → Int → List Int
  | [], c => if c > 0 then [c] else []
  | x :: t, c => (x * 2 % 4294967296 + c) :: tw t (x / 2147483648)
end Go.Proofs.YtmndbhgbngkakaaDoor.R
end
section
/- The document's answer: Div and Gcd, in numbers. No condition beyond the lists' lengths. -/
namespace Go.Proofs.YtmndbhgbngkakaaDoor.R

set_option linter.all false
open Go.RowKit Go.Proofs.YtmndbhgbngkakaaDoor.K Go.Proofs.YtmndbhgbngkakaaDoorW.PrintWords Go.Proofs.YtmndbhgbngkakaaDoorW.PrintLast Go.Proofs.YtmndbhgbngkakaaDoorW.PrintMore Go.Proofs.YtmndbhgbngkakaaDoor.M Go.Proofs.YtmndbhgbngkakaaDoor.F

end Go.Proofs.YtmndbhgbngkakaaDoor.R
end
section
/- The document's answer: Gcd, in numbers. No condition beyond the lists' lengths. -/
namespace Go.Proofs.YtmndbhgbngkakaaDoor.R

set_option linter.all false
open Go.RowKit Go.Proofs.YtmndbhgbngkakaaDoor.K Go.Proofs.YtmndbhgbngkakaaDoorW.PrintWords Go.Proofs.YtmndbhgbngkakaaDoorW.PrintLast Go.Proofs.YtmndbhgbngkakaaDoorW.PrintMore Go.Proofs.YtmndbhgbngkakaaDoor.M Go.Proofs.YtmndbhgbngkakaaDoor.F

end Go.Proofs.YtmndbhgbngkakaaDoor.R
end
section
/- Texts: what the program writes and reads, in numbers. No condition beyond the lists' lengths. -/
namespace Go.Proofs.YtmndbhgbngkakaaDoor.F

set_option linter.all false
open Go.RowKit Go.Proofs.YtmndbhgbngkakaaDoor.K Go.Proofs.YtmndbhgbngkakaaDoorW.PrintWords Go.Proofs.YtmndbhgbngkakaaDoorW.PrintLast Go.Proofs.YtmndbhgbngkakaaDoorW.PrintMore Go.Proofs.YtmndbhgbngkakaaDoor.M

def Dg (l : List UInt8) : Prop := ∀ b ∈ l, 48 ≤ b.toNat ∧ b.toNat ≤ 57
def dval : List UInt8 → Nat → Nat
  | [], a => a
  | b :: t, a => dval t (10 * a + (b.toNat - 48))
def blk (r : Nat) : List UInt8 := [100000000, 10000000, 1000000, 100000, 10000, 1000, 100, 10, 1].map fun q => UInt8.ofNat (48 + r / q % 10)
end Go.Proofs.YtmndbhgbngkakaaDoor.F
end
section
/- Texts: reading any text, by the program and by the document. No condition beyond the lists' lengths. -/
namespace Go.Proofs.YtmndbhgbngkakaaDoor.F

set_option linter.all false
open Go.RowKit Go.Proofs.YtmndbhgbngkakaaDoor.K Go.Proofs.YtmndbhgbngkakaaDoorW.PrintWords Go.Proofs.YtmndbhgbngkakaaDoorW.PrintLast Go.Proofs.YtmndbhgbngkakaaDoorW.PrintMore Go.Proofs.YtmndbhgbngkakaaDoor.M

/-- What a text of digits is read as. -/
def num (v : Nat) : List Int × Int := if v < 4294967296 ^ 64 then (lim v, 0) else ([], 6)
theorem drop_nil (p : UInt8 → Bool) : ∀ l : List UInt8, l.dropWhile p = [] → ∀ b ∈ l, p b = true
  | [], _, _, h => by cases h
  | c :: t, h, b, hb => by
    by_cases e : p c = true
    · rw [List.dropWhile_cons_of_pos e] at h
      rcases List.mem_cons.1 hb with rfl | hb
      · exact e
      · exact drop_nil p t h b hb
    · rw [List.dropWhile_cons_of_neg e] at h
      cases h
instance (l : List UInt8) : Decidable (Dg l) := inferInstanceAs (Decidable (∀ b ∈ l, 48 ≤ b.toNat ∧ b.toNat ≤ 57))
/-- What any text is read as. -/
def said (l : List UInt8) : List Int × Int := if l = [] ∨ (l.getD 0 0 = 48 ∧ 1 < l.length) ∨ ¬ Dg l then ([], 2) else num (dval l 0)
end Go.Proofs.YtmndbhgbngkakaaDoor.F
end
section
/- Texts: the document's reading of any text. No condition beyond the lists' lengths. -/
namespace Go.Proofs.YtmndbhgbngkakaaDoor.F

set_option linter.all false
open Go.RowKit Go.Proofs.YtmndbhgbngkakaaDoor.K Go.Proofs.YtmndbhgbngkakaaDoorW.PrintWords Go.Proofs.YtmndbhgbngkakaaDoorW.PrintLast Go.Proofs.YtmndbhgbngkakaaDoorW.PrintMore Go.Proofs.YtmndbhgbngkakaaDoor.M

theorem pw {m n : Nat} (hn : n = 64) (h : 10 * n ≤ m) : (4294967296 : Nat) ^ n ≤ 10 ^ m := by
  have a : (4294967296 : Nat) ^ n ≤ (10 ^ 10) ^ n := Nat.pow_le_pow_left (by decide) n
  rw [← Nat.pow_mul] at a
  exact Nat.le_trans a (Nat.pow_le_pow_right (by decide) h)
end Go.Proofs.YtmndbhgbngkakaaDoor.F
end
section
/- Texts: the document's writing, and that both write alike. No condition beyond the lists' lengths. -/
namespace Go.Proofs.YtmndbhgbngkakaaDoor.F

set_option linter.all false
open Go.RowKit Go.Proofs.YtmndbhgbngkakaaDoor.K Go.Proofs.YtmndbhgbngkakaaDoorW.PrintWords Go.Proofs.YtmndbhgbngkakaaDoorW.PrintLast Go.Proofs.YtmndbhgbngkakaaDoorW.PrintMore Go.Proofs.YtmndbhgbngkakaaDoor.M

end Go.Proofs.YtmndbhgbngkakaaDoor.F
end
section
/- Texts: the document's writing. No condition beyond the lists' lengths. -/
namespace Go.Proofs.YtmndbhgbngkakaaDoor.F

set_option linter.all false
open Go.RowKit Go.Proofs.YtmndbhgbngkakaaDoor.K Go.Proofs.YtmndbhgbngkakaaDoorW.PrintWords Go.Proofs.YtmndbhgbngkakaaDoorW.PrintLast Go.Proofs.YtmndbhgbngkakaaDoorW.PrintMore Go.Proofs.YtmndbhgbngkakaaDoor.M

end Go.Proofs.YtmndbhgbngkakaaDoor.F
end
section
/- Numbers of 64 and of 128 bits, on both sides. No condition. -/
namespace Go.Proofs.YtmndbhgbngkakaaDoor.F

set_option linter.all false
open Go.RowKit Go.Proofs.YtmndbhgbngkakaaDoor.K Go.Proofs.YtmndbhgbngkakaaDoorW.PrintWords Go.Proofs.YtmndbhgbngkakaaDoorW.PrintLast Go.Proofs.YtmndbhgbngkakaaDoorW.PrintMore Go.Proofs.YtmndbhgbngkakaaDoor.M

end Go.Proofs.YtmndbhgbngkakaaDoor.F
end
section
/- Fractions of naturals, in lowest terms: plain arithmetic. No condition. -/
namespace Go.Proofs.YtmndbhgbngkakaaDoor.Q
set_option linter.all false
/-- In lowest terms. -/
def red (n d : Nat) : Nat × Nat := (n / Nat.gcd n d, d / Nat.gcd n d)
/-- A fraction: the second limb is above 0, and nothing goes in both. -/
def Fr (n d : Nat) : Prop := 0 < d ∧ Nat.gcd n d = 1
theorem gcd_pos {n d : Nat} (h : 0 < d) : 0 < Nat.gcd n d := Nat.gcd_pos_of_pos_right _ h
theorem red_fst (n d : Nat) : (red n d).1 * Nat.gcd n d = n := Nat.div_mul_cancel (Nat.gcd_dvd_left n d)
theorem red_snd (n d : Nat) : (red n d).2 * Nat.gcd n d = d := Nat.div_mul_cancel (Nat.gcd_dvd_right n d)
theorem red_fr {n d : Nat} (h : 0 < d) : Fr (red n d).1 (red n d).2 := by
  refine ⟨?_, Nat.coprime_div_gcd_div_gcd (gcd_pos h)⟩
  rcases Nat.eq_zero_or_pos (red n d).2 with c | c
  · have := red_snd n d
    rw [c, Nat.zero_mul] at this
    omega
  · exact c
theorem red_cross {n d : Nat} (h : 0 < d) : (red n d).1 * d = n * (red n d).2 := by
  have e1 := red_fst n d
  have e2 := red_snd n d
  calc (red n d).1 * d = (red n d).1 * ((red n d).2 * Nat.gcd n d) := by rw [e2]
    _ = ((red n d).1 * Nat.gcd n d) * (red n d).2 := by rw [Nat.mul_comm (red n d).2, Nat.mul_assoc]
    _ = n * (red n d).2 := by rw [e1]
theorem fr_ext {a b c d : Nat} (h : Fr a b) (k : Fr c d) (e : a * d = c * b) : a = c ∧ b = d := by
  have b1 : b ∣ d := by
    have : b ∣ a * d := ⟨c, by rw [e, Nat.mul_comm]⟩
    exact (Nat.Coprime.symm h.2).dvd_of_dvd_mul_left this
  have b2 : d ∣ b := by
    have : d ∣ c * b := ⟨a, by rw [← e, Nat.mul_comm]⟩
    exact (Nat.Coprime.symm k.2).dvd_of_dvd_mul_left this
  have eb := Nat.dvd_antisymm b1 b2
  subst eb
  exact ⟨Nat.eq_of_mul_eq_mul_right h.1 e, rfl⟩
/-- Two fractions that have one cross product are one in lowest terms. -/
theorem red_eq {a b c d : Nat} (h : 0 < b) (k : 0 < d) (e : a * d = c * b) : red a b = red c d := by
  have h1 := red_cross (n := a) h
  have h2 := red_cross (n := c) k
  have e3 : (red a b).1 * (red c d).2 = (red c d).1 * (red a b).2 := by
    have p : 0 < b * d := Nat.mul_pos h k
    refine Nat.eq_of_mul_eq_mul_right p ?_
    calc (red a b).1 * (red c d).2 * (b * d) = ((red a b).1 * b) * ((red c d).2 * d) := by simp only [Nat.mul_comm, Nat.mul_left_comm, Nat.mul_assoc]
      _ = (a * (red a b).2) * ((red c d).2 * d) := by rw [h1]
      _ = (a * d) * ((red a b).2 * (red c d).2) := by simp only [Nat.mul_comm, Nat.mul_left_comm, Nat.mul_assoc]
      _ = (c * b) * ((red a b).2 * (red c d).2) := by rw [e]
      _ = (c * (red c d).2) * ((red a b).2 * b) := by simp only [Nat.mul_comm, Nat.mul_left_comm, Nat.mul_assoc]
      _ = ((red c d).1 * d) * ((red a b).2 * b) := by rw [h2]
      _ = (red c d).1 * (red a b).2 * (b * d) := by simp only [Nat.mul_comm, Nat.mul_left_comm, Nat.mul_assoc]
  have := fr_ext (red_fr h) (red_fr k) e3
  exact Prod.ext this.1 this.2
end Go.Proofs.YtmndbhgbngkakaaDoor.Q
end
section
/- Sums, differences, products and quotients of fractions in lowest terms: plain arithmetic. No condition. -/
namespace Go.Proofs.YtmndbhgbngkakaaDoor.Q
set_option linter.all false
/-- Half of a sum: m = (a + b) / 2, as far from both. -/
theorem mid (a b c d n m : Nat) (hb : 0 < b) (hd : 0 < d) (hm : 0 < m) (le : a * d ≤ c * b) (x : n * (2 * (b * d)) = (a * d + c * b) * m) :
    a * m ≤ n * b ∧ n * d ≤ c * m ∧ red (n * b - a * m) (m * b) = red (c * m - n * d) (d * m) := by
  have l1 : a * m ≤ n * b := by
    refine Nat.le_of_mul_le_mul_left (c := 2 * d) ?_ (by omega)
    have e1 : 2 * d * (n * b) = n * (2 * (b * d)) := by grind
    have e2 : 2 * d * (a * m) = (a * d) * m + (a * d) * m := by grind
    have e3 : (a * d + c * b) * m = (a * d) * m + (c * b) * m := Nat.add_mul _ _ _
    have e4 := Nat.mul_le_mul_right m le
    omega
  have l2 : n * d ≤ c * m := by
    refine Nat.le_of_mul_le_mul_left (c := 2 * b) ?_ (by omega)
    have e1 : 2 * b * (n * d) = n * (2 * (b * d)) := by grind
    have e2 : 2 * b * (c * m) = (c * b) * m + (c * b) * m := by grind
    have e3 : (a * d + c * b) * m = (a * d) * m + (c * b) * m := Nat.add_mul _ _ _
    have e4 := Nat.mul_le_mul_right m le
    omega
  refine ⟨l1, l2, red_eq (Nat.mul_pos hm hb) (Nat.mul_pos hd hm) ?_⟩
  obtain ⟨s, hs⟩ := Nat.exists_eq_add_of_le l1
  obtain ⟨t, ht⟩ := Nat.exists_eq_add_of_le l2
  rw [hs, ht, Nat.add_sub_cancel_left, Nat.add_sub_cancel_left]
  have e : s * d = t * b := by
    have e1 : d * (n * b) = d * (a * m) + s * d := by rw [hs, Nat.mul_add, Nat.mul_comm d s]
    have e2 : b * (c * m) = b * (n * d) + t * b := by rw [ht, Nat.mul_add, Nat.mul_comm b t]
    have e3 : n * (2 * (b * d)) = d * (n * b) + b * (n * d) := by grind
    have e4 : (a * d + c * b) * m = d * (a * m) + b * (c * m) := by grind
    omega
  grind
end Go.Proofs.YtmndbhgbngkakaaDoor.Q
end
