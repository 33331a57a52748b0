/- Items over plain data: RankOrder. No condition. -/
import Derived.Test.YtmndbhgbngkakaaDoorU6
import Derived.Test.YtmndbhgbngkakaaDoorUC
namespace Go.Proofs.YtmndbhgbngkakaaDoor.Z
open Go Go.RowKit Go.Proofs.YtmndbhgbngkakaaDoor.E Go.Proofs.YtmndbhgbngkakaaDoor.G Go.Proofs.YtmndbhgbngkakaaDoor.K Go.Proofs.YtmndbhgbngkakaaDoor.F Go.Proofs.YtmndbhgbngkakaaDoor.M Go.Proofs.YtmndbhgbngkakaaDoor.R
open Go.Proofs.YtmndbhgbngkakaaDoorW.PrintWords hiding rd
set_option linter.all false

set_option maxRecDepth 100000
set_option maxHeartbeats 4000000
/-- What a rank is: two numbers. -/
theorem rk_rt {k : ByteArray} {u w : Int} (hx : It.ok ⟨k, u, w⟩) (h : chkIt ⟨k, u, w⟩ = 0) : ∃ a b g : Nat, 0 < g ∧ 0 < b ∧ u = (a * g : Nat) ∧ w = (b * g : Nat) ∧ a < 18446744073709551616 ∧ b < 18446744073709551616 ∧ Rt (rkN ⟨k, u, w⟩) (rkD ⟨k, u, w⟩) a b := by
  obtain ⟨a, ea, ha⟩ := u64_ex hx.1
  obtain ⟨b, eb, hb⟩ := u64_ex hx.2
  obtain ⟨r1, r2, r3⟩ := rk_of ea eb h
  have hg : 0 < Nat.gcd a b := Nat.gcd_pos_of_pos_right _ (by omega)
  have h1 : a / Nat.gcd a b < 18446744073709551616 := Nat.lt_of_le_of_lt (Nat.div_le_self _ _) ha
  have h2 : b / Nat.gcd a b < 18446744073709551616 := Nat.lt_of_le_of_lt (Nat.div_le_self _ _) hb
  have h3 : 0 < b / Nat.gcd a b := Nat.div_pos (Nat.le_of_dvd (by omega) (Nat.gcd_dvd_right a b)) hg
  refine ⟨a / Nat.gcd a b, b / Nat.gcd a b, Nat.gcd a b, hg, h3, ?_, ?_, h1, h2, r1, r2, big64 h1, big64 h2, h3, ?_⟩
  · rw [Nat.div_mul_cancel (Nat.gcd_dvd_left a b)]; exact ea
  · rw [Nat.div_mul_cancel (Nat.gcd_dvd_right a b)]; exact eb
  · exact Nat.gcd_div_gcd_div_gcd_of_pos_right (by omega)
theorem fits64 {a b c d : Nat} (ha : a < 18446744073709551616) (hb : b < 18446744073709551616) (hc : c < 18446744073709551616) (hd : d < 18446744073709551616) : Fits a b c d := by
  have h : 340282366920938463463374607431768211456 < Big := by decide
  have h1 : a * d ≤ 18446744073709551615 * 18446744073709551615 := Nat.mul_le_mul (by omega) (by omega)
  have h2 : c * b ≤ 18446744073709551615 * 18446744073709551615 := Nat.mul_le_mul (by omega) (by omega)
  exact ⟨Nat.lt_trans (by omega) h, Nat.lt_trans (by omega) h⟩
theorem cmpI_ord (x y : Nat) : cmpI x y = ordI x y := by
  unfold cmpI ordI
  repeat' split
  all_goals omega
theorem cmpI_scale {a b c d g h : Nat} (hg : 0 < g) (hh : 0 < h) : cmpI (a * d) (c * b) = ordI (((a * g : Nat) : Int) * ((d * h : Nat) : Int)) (((c * h : Nat) : Int) * ((b * g : Nat) : Int)) := by
  rw [cmpI_ord, ← ordI_scale' (n := ((g * h : Nat) : Int)) (by have := Nat.mul_pos hg hh; omega)]
  congr 1 <;> push_cast <;> grind
end Go.Proofs.YtmndbhgbngkakaaDoor.Z
