/- Numbers of 64 and of 128 bits, on both sides. No condition. -/
import Derived.Test.YtdgbeejhccogpaaDoorTT5
namespace Go.Proofs.YtdgbeejhccogpaaDoor.F
set_option linter.unusedSimpArgs false
set_option linter.unusedVariables false
open Go.RowKit Go.Proofs.YtdgbeejhccogpaaDoor.T Go.Proofs.YtdgbeejhccogpaaDoorW.PrintWords Go.Proofs.YtdgbeejhccogpaaDoorW.PrintLast Go.Proofs.YtdgbeejhccogpaaDoorW.PrintMore Go.Proofs.YtdgbeejhccogpaaDoor.M

theorem from_ev (hi lo : Nat) (h1 : hi < 18446744073709551616) (h2 : lo < 18446744073709551616) : Ev (fun k => nat_From.f k (hi : Int) (lo : Int)) (lim (lo + 18446744073709551616 * hi)) := by
  unfold nat_From.f
  refine Ev.bind (trim_lim (n := lo + 18446744073709551616 * hi) (by simp) ?_ ?_) (Ev.now _)
  · exact W.cons (by omega) (by omega) (W.cons (by omega) (by omega) (W.cons (by omega) (by omega) (W.cons (by omega) (by omega) W.nil)))
  · simp only [val]
    omega
theorem rof_ev (n : Nat) (h : n < 18446744073709551616) : Ev (fun k => samphireref02_Of.f k (n : Int)) (lim n) := by
  unfold samphireref02_Of.f
  rw [tmod_pos (a := (n : Int)) (by omega), tdiv_pos (a := (n : Int)) (b := 65536) (by omega), tdiv_pos (a := (n : Int)) (b := 4294967296) (by omega), tdiv_pos (a := (n : Int)) (b := 281474976710656) (by omega),
    u64_in (n := (n : Int) / 65536) (by omega) (by omega), u64_in (n := (n : Int) / 4294967296) (by omega) (by omega), u64_in (n := (n : Int) / 281474976710656) (by omega) (by omega), tmod_pos (by omega), tmod_pos (by omega)]
  have W4 := whole_ev [(n : Int) % 65536, (n : Int) / 65536 % 65536, (n : Int) / 4294967296 % 65536, (n : Int) / 281474976710656]
    (D.cons (by omega) (by omega) (D.cons (by omega) (by omega) (D.cons (by omega) (by omega) (D.cons (by omega) (by omega) (D.nil _))))) (by simp)
  have e : (vb 65536 [(n : Int) % 65536, (n : Int) / 65536 % 65536, (n : Int) / 4294967296 % 65536, (n : Int) / 281474976710656]).toNat = n := by
    simp only [vb]
    omega
  rw [e] at W4
  exact Ev.bind W4 (Ev.now _)
theorem wide_ev (hi lo : Nat) (h1 : hi < 18446744073709551616) (h2 : lo < 18446744073709551616) :
    Ev (fun k => samphireref02_Mul.f k (lim hi) [0, 0, 1]) (lim (18446744073709551616 * hi)) ∧ Ev (fun k => samphireref02_Add.f k (lim lo) (lim (18446744073709551616 * hi))) (lim (lo + 18446744073709551616 * hi)) := by
  have e : lim 18446744073709551616 = [0, 0, 1] := by
    rw [lim_pos (by decide), show (18446744073709551616 : Nat) / 4294967296 = 4294967296 from rfl, lim_pos (by decide), show (4294967296 : Nat) / 4294967296 = 1 from rfl, lim_pos (by decide), show (1 : Nat) / 4294967296 = 0 from rfl, lim_zero]
    rfl
  have l1 : (lim hi).length ≤ 2 := len_le.2 h1
  have l2 : (lim lo).length ≤ 2 := len_le.2 h2
  have l3 : (lim 18446744073709551616).length = 3 := by rw [e]; rfl
  have l4 : (lim (18446744073709551616 * hi)).length ≤ 4 := len_le.2 (by omega)
  have M1 := rmul_ev hi 18446744073709551616 (by omega) (by omega)
  rw [e, Nat.mul_comm] at M1
  exact ⟨M1, radd_ev lo _ (by omega) (by omega)⟩
end Go.Proofs.YtdgbeejhccogpaaDoor.F
