/- Items, plainly: their order goes through. No condition but those that are written out. -/
import Derived.Test.YtmndbhgbngkakaaDoorUB
namespace Go.Proofs.YtmndbhgbngkakaaDoor.Z
open Go Go.Proofs.YtmndbhgbngkakaaDoor.K Go.Proofs.YtmndbhgbngkakaaDoor.F Go.Proofs.YtmndbhgbngkakaaDoor.M Go.Proofs.YtmndbhgbngkakaaDoor.R
set_option linter.all false

theorem cb_anti : ∀ a b : List UInt8, Lib.compareBytes b a = - Lib.compareBytes a b
  | [], [] => rfl
  | [], _ :: _ => rfl
  | _ :: _, [] => rfl
  | a :: l, b :: m => by
    unfold Lib.compareBytes
    rw [cb_anti l m]
    simp only [UInt8.lt_iff_toNat_lt]
    split <;> split <;> first | rfl | (exfalso; omega) | (split <;> first | rfl | (exfalso; omega))
theorem cb_zero : ∀ {a b : List UInt8}, Lib.compareBytes a b = 0 → a = b
  | [], [], _ => rfl
  | [], _ :: _, h => by cases h
  | _ :: _, [], h => by cases h
  | a :: l, b :: m, h => by
    unfold Lib.compareBytes at h
    split at h
    · cases h
    · split at h
      · cases h
      · rename_i h1 h2
        rw [cb_zero h, UInt8.le_antisymm (UInt8.not_lt.1 h2) (UInt8.not_lt.1 h1)]
theorem cb_self : ∀ a : List UInt8, Lib.compareBytes a a = 0
  | [] => rfl
  | a :: l => by
    unfold Lib.compareBytes
    rw [if_neg (UInt8.lt_irrefl a), if_neg (UInt8.lt_irrefl a), cb_self l]
theorem cb_trans : ∀ {a b c : List UInt8}, Lib.compareBytes a b ≤ 0 → Lib.compareBytes b c ≤ 0 → Lib.compareBytes a c ≤ 0
  | [], _, [], _, _ => by decide
  | [], _, _ :: _, _, _ => by simp [Lib.compareBytes]
  | _ :: _, [], _, h, _ => by simp [Lib.compareBytes] at h
  | _ :: _, _ :: _, [], _, h => by simp [Lib.compareBytes] at h
  | a :: l, b :: m, c :: n, h, g => by
    unfold Lib.compareBytes at h g ⊢
    simp only [UInt8.lt_iff_toNat_lt] at h g ⊢
    have := @cb_trans l m n
    split at h <;> split at g <;> try split at h <;> try split at g
    all_goals (repeat' split) <;> first | omega | decide
theorem cmpB_anti (a b : ByteArray) : cmpB b a = - cmpB a b := cb_anti _ _
theorem cmpB_zero {a b : ByteArray} (h : cmpB a b = 0) : a = b := ba_ext (cb_zero h)
theorem cmpB_self' (a : ByteArray) : cmpB a a = 0 := cb_self _
theorem cmpB_trans {a b c : ByteArray} (h : cmpB a b ≤ 0) (g : cmpB b c ≤ 0) : cmpB a c ≤ 0 := cb_trans h g
theorem ordI_anti (a b : Int) : ordI b a = - ordI a b := by
  unfold ordI
  repeat' split
  all_goals omega
theorem ordI_scale' {a b n : Int} (h : 0 < n) : ordI (a * n) (b * n) = ordI a b := by
  unfold ordI
  have h1 : a * n < b * n ↔ a < b := Int.mul_lt_mul_right h
  have h2 : b * n < a * n ↔ b < a := Int.mul_lt_mul_right h
  simp only [h1, h2]
theorem ordI_le {a b : Int} : ordI a b ≤ 0 ↔ a ≤ b := by
  unfold ordI
  repeat' split
  all_goals omega
theorem ordI_zero {a b : Int} : ordI a b = 0 ↔ a = b := by
  unfold ordI
  repeat' split
  all_goals omega
theorem cmp_anti (x y : It) : cmpIt y x = - cmpIt x y := by
  unfold cmpIt
  rw [ordI_anti (x.u * y.w) (y.u * x.w), cmpB_anti x.key y.key]
  split <;> split <;> first | rfl | (exfalso; omega)
theorem cmp_zero {x y : It} : cmpIt x y = 0 ↔ ordI (x.u * y.w) (y.u * x.w) = 0 ∧ x.key = y.key := by
  unfold cmpIt
  split
  · constructor
    · intro h; contradiction
    · intro h; exact absurd h.1 ‹_›
  · rename_i h
    have h : ordI (x.u * y.w) (y.u * x.w) = 0 := Decidable.not_not.1 h
    exact ⟨fun e => ⟨h, cmpB_zero e⟩, fun e => by rw [e.2]; exact cmpB_self' _⟩
theorem mid {a b c d e f p q r : Int} (h1 : a * r = e * q) (h2 : b * r = c * p) (h3 : d * p = f * q) (hp : 0 < p) (hq : 0 < q) (hr : 0 < r) :
    (a ≤ b → c ≤ d → e ≤ f) ∧ (a < b → c ≤ d → e < f) ∧ (a ≤ b → c < d → e < f) := by
  refine ⟨fun u v => ?_, fun u v => ?_, fun u v => ?_⟩
  · have k1 := Int.mul_le_mul_of_nonneg_right u (Int.le_of_lt hr)
    have k2 := Int.mul_le_mul_of_nonneg_right v (Int.le_of_lt hp)
    exact Int.le_of_mul_le_mul_right (by omega) hq
  · have k1 := Int.mul_lt_mul_of_pos_right u hr
    have k2 := Int.mul_le_mul_of_nonneg_right v (Int.le_of_lt hp)
    exact Int.lt_of_mul_lt_mul_right (by omega : e * q < f * q) (Int.le_of_lt hq)
  · have k1 := Int.mul_le_mul_of_nonneg_right u (Int.le_of_lt hr)
    have k2 := Int.mul_lt_mul_of_pos_right v hp
    exact Int.lt_of_mul_lt_mul_right (by omega : e * q < f * q) (Int.le_of_lt hq)
theorem cmp_le {x y : It} : cmpIt x y ≤ 0 ↔ x.u * y.w < y.u * x.w ∨ (x.u * y.w = y.u * x.w ∧ cmpB x.key y.key ≤ 0) := by
  unfold cmpIt
  split
  · rename_i h
    rw [ordI_le]
    have : x.u * y.w ≠ y.u * x.w := fun e => h (ordI_zero.2 e)
    generalize x.u * y.w = a at *
    generalize y.u * x.w = b at *
    constructor
    · intro g; left; omega
    · rintro (g | ⟨g, _⟩) <;> omega
  · rename_i h
    have e : x.u * y.w = y.u * x.w := ordI_zero.1 (Decidable.not_not.1 h)
    constructor
    · intro g; exact .inr ⟨e, g⟩
    · rintro (g | ⟨_, g⟩)
      · omega
      · exact g
/-- The order goes through. -/
theorem cmp_trans {x y z : It} (hx : 0 < x.w) (hy : 0 < y.w) (hz : 0 < z.w) (h : cmpIt x y ≤ 0) (g : cmpIt y z ≤ 0) : cmpIt x z ≤ 0 := by
  rw [cmp_le] at h g ⊢
  have m := mid (a := x.u * y.w) (b := y.u * x.w) (c := y.u * z.w) (d := z.u * y.w) (e := x.u * z.w) (f := z.u * x.w) (p := x.w) (q := y.w) (r := z.w) (by grind) (by grind) (by grind) hx hy hz
  have n := mid (a := z.u * y.w) (b := y.u * z.w) (c := y.u * x.w) (d := x.u * y.w) (e := z.u * x.w) (f := x.u * z.w) (p := z.w) (q := y.w) (r := x.w) (by grind) (by grind) (by grind) hz hy hx
  rcases h with h | ⟨h, h'⟩
  · left
    rcases g with g | ⟨g, g'⟩
    · exact m.2.1 h (by omega)
    · exact m.2.1 h (by omega)
  · rcases g with g | ⟨g, g'⟩
    · left; exact m.2.2 (by omega) g
    · right
      have k1 := m.1 (by omega) (by omega)
      have k2 := n.1 (by omega) (by omega)
      exact ⟨by omega, cmpB_trans h' g'⟩
end Go.Proofs.YtmndbhgbngkakaaDoor.Z
