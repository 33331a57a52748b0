/- Division: by one limb; joins of bits. No condition beyond the lists' lengths. -/
import Derived.Test.YtdgbeejhccogpaaDoorTF3
import Derived.Test.YtdgbeejhccogpaaDoorTB1
import Derived.Laws.BitsLemmas
namespace Go.Proofs.YtdgbeejhccogpaaDoor.F
set_option linter.unusedSimpArgs false
set_option linter.unusedVariables false
open Go.RowKit Go.Proofs.YtdgbeejhccogpaaDoor.T Go.Proofs.YtdgbeejhccogpaaDoorW.PrintWords Go.Proofs.YtdgbeejhccogpaaDoorW.PrintLast Go.Proofs.YtdgbeejhccogpaaDoorW.PrintMore Go.Proofs.YtdgbeejhccogpaaDoor.M

theorem join64 {a b : Int} (ha : 0 ≤ a) (ha1 : a < 4294967296) (hb : 0 ≤ b) (hb1 : b < 4294967296) : Go.bits .or .u64 (IntKind.u64.wrap (a * 4294967296)) (IntKind.u64.wrap b) = a * 4294967296 + b := by
  rw [u64_in (by omega) (by omega), u64_in (by omega) (by omega)]
  exact Go.bits_join .u64 64 (by decide) wraps_u64 32 _ _ (by omega) (by omega) (by omega) hb (by omega) (by omega)
theorem div_lt {x b n : Int} (hb : 0 < b) (h : x < n * b) : x / b < n := Int.ediv_lt_of_lt_mul hb h
theorem short_l0 (a : List Int) (ha : W a) (hla : a.length < 4611686018427387904) (b : Int) (hb : 0 < b) (hb1 : b < 4294967296) (n : Nat) :
    ∀ (o : List Int) (r : Int), n ≤ a.length → o.length = a.length → W o → 0 ≤ r → r < b → val (o.drop n) * b + r = val (a.drop n) →
    Ev (fun k => nat_short.l0 k a b o r ((n : Int) - 1)) (lim (val a / b).toNat, val a % b) := by
  induction n with
  | zero =>
    intro o r _ hl hw h0 h1 hv
    rw [List.drop_zero, List.drop_zero] at hv
    have e1 : val a / b = val o := by
      rw [← hv, Int.add_comm, Int.add_mul_ediv_right _ _ (by omega), Int.ediv_eq_zero_of_lt h0 h1, Int.zero_add]
    have e2 : val a % b = r := by
      rw [← hv, Int.add_comm, Int.add_mul_emod_self_right, Int.emod_eq_of_lt h0 h1]
    rw [e1, e2]
    refine Ev.step (f := fun k => (nat_trim.f k o).bind fun t => some (t, r % 4294967296)) (fun k => ?_) ?_
    · simp only [nat_short.l0]
      rw [if_neg (by omega)]
    · refine Ev.bind (trim_lim (n := (val o).toNat) (by omega) hw (by have := val_nonneg hw; omega)) ?_
      rw [show r % 4294967296 = r from by omega]
      exact Ev.now _
  | succ n ih =>
    intro o r hn hl hw h0 h1 hv
    have wa := ha.getD n
    have hj := join64 (a := r) (b := a.getD n 0) h0 (by omega) wa.1 wa.2
    have q0 : 0 ≤ (r * 4294967296 + a.getD n 0) / b := Int.ediv_nonneg (by omega) (by omega)
    have q1 : (r * 4294967296 + a.getD n 0) / b < 4294967296 := div_lt hb (by omega)
    have r0 := Int.emod_nonneg (r * 4294967296 + a.getD n 0) (show b ≠ 0 by omega)
    have r1 := Int.emod_lt_of_pos (r * 4294967296 + a.getD n 0) hb
    have hd := Int.mul_ediv_add_emod (r * 4294967296 + a.getD n 0) b
    refine Ev.step (f := fun k => nat_short.l0 k a b (o.set n ((r * 4294967296 + a.getD n 0) / b)) ((r * 4294967296 + a.getD n 0) % b) ((n : Int) - 1)) (fun k => ?_) ?_
    · simp only [nat_short.l0]
      rw [show ((n + 1 : Nat) : Int) - 1 = (n : Int) from by omega]
      rw [if_pos (by omega), if_pos (by omega), if_pos (by omega), rd_nat, hj, u64_in (n := b) (by omega) (by omega), if_neg (by omega), if_pos (by omega), tdiv_pos (by omega), tmod_pos (by omega), u64_in q0 (by omega), wrap64_in (by omega) (by omega)]
      rw [show (r * 4294967296 + a.getD n 0) / b % 4294967296 = (r * 4294967296 + a.getD n 0) / b from by omega]
      rfl
    · refine ih _ _ (by omega) (by rw [List.length_set]; exact hl) (hw.set n q0 q1) r0 r1 ?_
      · rw [drop_cons _ n (by rw [List.length_set]; omega), getD_set_eq _ _ _ (by omega), drop_cons a n (by omega), List.drop_set_of_lt (by omega)]
        simp only [val]
        rw [← hv, Int.add_mul, Int.mul_assoc, Int.mul_add, Int.mul_comm _ b]
        omega
theorem short_ev (x b : Nat) (hx : (lim x).length < 1099511627776) (hb : 0 < b) (hb1 : b < 4294967296) : Ev (fun k => nat_short.f k (lim x) (b : Int)) (lim (x / b), ((x % b : Nat) : Int)) := by
  unfold nat_short.f
  simp only [if_pos (show (0 : Int) ≤ ((lim x).length : Int) by omega), Int.toNat_natCast, if_pos (show (lim x).length ≤ 70368744177664 by omega)]
  rw [wrap64_in (n := ((lim x).length : Int) - 1) (by omega) (by omega)]
  have h := short_l0 (lim x) (W_lim x) (by omega) b (by omega) (by omega) (lim x).length (List.replicate (lim x).length 0) 0 (Nat.le_refl _) (by simp) (W.replicate _) (by omega) (by omega) (by simp [val])
  rw [val_lim] at h
  exact h
end Go.Proofs.YtdgbeejhccogpaaDoor.F
