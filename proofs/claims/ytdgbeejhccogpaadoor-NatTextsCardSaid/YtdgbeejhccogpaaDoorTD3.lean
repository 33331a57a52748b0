/- Division: how often (a guess), away and back. No condition beyond the lists' lengths. -/
import Derived.Test.YtdgbeejhccogpaaDoorTD2
namespace Go.Proofs.YtdgbeejhccogpaaDoor.F
set_option linter.unusedSimpArgs false
set_option linter.unusedVariables false
open Go.RowKit Go.Proofs.YtdgbeejhccogpaaDoor.T Go.Proofs.YtdgbeejhccogpaaDoorW.PrintWords Go.Proofs.YtdgbeejhccogpaaDoorW.PrintLast Go.Proofs.YtdgbeejhccogpaaDoorW.PrintMore Go.Proofs.YtdgbeejhccogpaaDoor.M

theorem guess_l0 (a b : List Int) (ha : W a) (hb : W b) (k n : Nat) (hn : b.length = n) (h2 : 2 ≤ n) (hk : k + n < a.length) (hla : a.length < 1099511627776) (V1 V2 U2 top G : Int)
    (e1 : b.getD (n - 1) 0 = V1) (e2 : b.getD (n - 2) 0 = V2) (e3 : a.getD (k + n - 2) 0 = U2) (hV : 2147483648 ≤ V1) (ht : top ≤ 4294967296 * V1 + 4294967295)
    (hG0 : 0 ≤ G) (hG3 : G ≤ 4294967295) (hG1 : G * V2 ≤ (top - G * V1) * 4294967296 + U2) (hG2 : ∀ q, q ≤ 4294967295 → G < q → ¬ (q * V2 ≤ (top - q * V1) * 4294967296 + U2)) (m : Nat) :
    ∀ (q r : Int), q = G + m → r = top - q * V1 → 0 ≤ r → r < 4294967296 → q ≤ 4294967297 → Ev (fun f => nat_guess.l0 f a b (k : Int) (n : Int) q r) G := by
  have w1 := hb.getD (n - 1)
  have w2 := hb.getD (n - 2)
  have w3 := ha.getD (k + n - 2)
  rw [e1] at w1
  rw [e2] at w2
  rw [e3] at w3
  -- the test
  have test : ∀ q r : Int, 0 ≤ q → q ≤ 4294967297 → 0 ≤ r → r < 4294967296 → ∀ t : Int, Ev (fun f => nat_guess.j1 f a b (k : Int) (n : Int) q r (decide (q > 4294967295 ∨ q * V2 > r * 4294967296 + U2))) t → Ev (fun f => nat_guess.l0 f a b (k : Int) (n : Int) q r) t := by
    intro q r q0 q1 r0 r1 t h
    have m0 : 0 ≤ q * V2 := Int.mul_nonneg q0 w2.1
    have m1 : q * V2 ≤ 4294967297 * V2 := Int.mul_le_mul_of_nonneg_right q1 w2.1
    have hj := join64 (a := r) (b := U2) r0 r1 w3.1 w3.2
    refine Ev.step (fun f => nat_guess.l0.eq_2 _ _ _ _ _ _ f) ?_
    have i1 : wrap64 ((n : Int) - 2) = ((n - 2 : Nat) : Int) := by rw [wrap64_in (by omega) (by omega)]; omega
    have i2 : wrap64 (wrap64 ((k : Int) + n) - 2) = ((k + n - 2 : Nat) : Int) := by rw [wrap64_in (n := (k : Int) + n) (by omega) (by omega), wrap64_in (by omega) (by omega)]; omega
    rw [i1, i2, rd_nat, rd_nat, e2, e3, hj, u64_in (n := V2) (by omega) (by omega), u64_in (n := q * V2) m0 (by omega)]
    by_cases c : q > 4294967295
    · simp only [if_pos c]
      simpa [c] using h
    · simp only [if_neg c, if_pos (show (0 : Int) ≤ ((n - 2 : Nat) : Int) by omega), if_pos (show ((n - 2 : Nat) : Int) < (b.length : Int) by omega), if_pos (show (0 : Int) ≤ ((k + n - 2 : Nat) : Int) by omega), if_pos (show ((k + n - 2 : Nat) : Int) < (a.length : Int) by omega)]
      simpa [c] using h
  induction m with
  | zero =>
    intro q r hq hr r0 r1 q1
    have hq' : q = G := by omega
    subst hq'
    refine test q r hG0 q1 r0 r1 _ ?_
    rw [← hr] at hG1
    rw [decide_eq_false (by omega)]
    exact Ev.step (f := fun _ => some q) (fun f => by simp only [nat_guess.j1, Bool.false_eq_true, if_false]) (Ev.now _)
  | succ m ih =>
    intro q r hq hr r0 r1 q1
    refine test q r (by omega) q1 r0 r1 _ ?_
    have c : q > 4294967295 ∨ q * V2 > r * 4294967296 + U2 := by
      rcases Int.lt_or_le 4294967295 q with c | c
      · exact Or.inl c
      · have := hG2 q c (by omega)
        rw [← hr] at this
        exact Or.inr (by omega)
    rw [decide_eq_true c]
    have hr' : r + V1 = top - (q - 1) * V1 := by rw [Int.sub_mul]; omega
    have i1 : wrap64 ((n : Int) - 1) = ((n - 1 : Nat) : Int) := by rw [wrap64_in (by omega) (by omega)]; omega
    refine Ev.step (fun f => nat_guess.j1.eq_2 _ _ _ _ _ _ _ f) ?_
    rw [i1, rd_nat, e1, u64_in (n := V1) (by omega) (by omega), u64_in (n := r + V1) (by omega) (by omega), u64_in (n := q - 1) (by omega) (by omega)]
    simp only [if_true, if_pos (show (0 : Int) ≤ ((n - 1 : Nat) : Int) by omega), if_pos (show ((n - 1 : Nat) : Int) < (b.length : Int) by omega)]
    by_cases c2 : r + V1 > 4294967295
    · simp only [if_pos c2]
      have hq2 : q - 1 ≤ 4294967295 := by
        rcases Int.lt_or_le 4294967295 (q - 1) with c3 | c3
        · have : 4294967296 * V1 ≤ (q - 1) * V1 := Int.mul_le_mul_of_nonneg_right (by omega) (by omega)
          omega
        · exact c3
      have e : q - 1 = G := by
        rcases Int.lt_or_le G (q - 1) with c4 | c4
        · exfalso
          refine hG2 (q - 1) hq2 c4 ?_
          rw [← hr']
          have m1 : (q - 1) * V2 ≤ 4294967295 * V2 := Int.mul_le_mul_of_nonneg_right hq2 w2.1
          omega
        · omega
      rw [e]
      exact Ev.now _
    · simp only [if_neg c2]
      exact ih (q - 1) (r + V1) (by omega) hr' (by omega) (by omega) (by omega)
theorem w_pred {m : Nat} (h : 1 ≤ m) (hm : m < 4611686018427387904) : wrap64 ((m : Int) - 1) = ((m - 1 : Nat) : Int) := by rw [wrap64_in (by omega) (by omega)]; omega
theorem w_add {m n : Nat} (hm : m < 4611686018427387904) (hn : n < 4611686018427387904) : wrap64 ((m : Int) + (n : Int)) = ((m + n : Nat) : Int) := by rw [wrap64_in (by omega) (by omega)]; omega
theorem w_succ {m : Nat} (hm : m < 4611686018427387904) : wrap64 ((m : Int) + 1) = ((m + 1 : Nat) : Int) := by rw [wrap64_in (by omega) (by omega)]; omega
theorem n_nn (m : Nat) : (0 : Int) ≤ ((m : Nat) : Int) := Int.natCast_nonneg m
theorem n_lt {m n : Nat} (h : m < n) : ((m : Nat) : Int) < (n : Int) := Int.ofNat_lt.2 h
theorem guess_num (top V1 V2 U2 : Int) (hV : 2147483648 ≤ V1) (w2 : 0 ≤ V2 ∧ V2 < 4294967296) (u2 : 0 ≤ U2 ∧ U2 < 4294967296) (ht0 : 0 ≤ top) :
    ∃ G, 0 ≤ G ∧ G ≤ 4294967295 ∧ G * (V1 * 4294967296 + V2) ≤ top * 4294967296 + U2 ∧ (∀ q, q ≤ 4294967295 → q * (V1 * 4294967296 + V2) ≤ top * 4294967296 + U2 → q ≤ G) := by
  have hpos : 0 < V1 * 4294967296 + V2 := by omega
  have d0 : 0 ≤ (top * 4294967296 + U2) / (V1 * 4294967296 + V2) := Int.ediv_nonneg (by omega) (by omega)
  have d1 := Int.ediv_mul_le (top * 4294967296 + U2) (show V1 * 4294967296 + V2 ≠ 0 by omega)
  by_cases c : (top * 4294967296 + U2) / (V1 * 4294967296 + V2) ≤ 4294967295
  · exact ⟨_, d0, c, d1, fun q _ hq => (Int.le_ediv_iff_mul_le hpos).2 hq⟩
  · refine ⟨4294967295, by omega, by omega, ?_, fun q hq _ => hq⟩
    have : 4294967295 * (V1 * 4294967296 + V2) ≤ (top * 4294967296 + U2) / (V1 * 4294967296 + V2) * (V1 * 4294967296 + V2) := Int.mul_le_mul_of_nonneg_right (by omega) (by omega)
    omega
theorem guess_ev (a b : List Int) (ha : W a) (hb : W b) (k n : Nat) (hn : b.length = n) (h2 : 2 ≤ n) (hk : k + n < a.length) (hla : a.length < 1099511627776) (V1 V2 U0 U1 U2 : Int)
    (e1 : b.getD (n - 1) 0 = V1) (e2 : b.getD (n - 2) 0 = V2) (e3 : a.getD (k + n) 0 = U0) (e4 : a.getD (k + n - 1) 0 = U1) (e5 : a.getD (k + n - 2) 0 = U2)
    (hV : 2147483648 ≤ V1) (hU : U0 ≤ V1) :
    ∃ G, Ev (fun f => nat_guess.f f a b (k : Int)) G ∧ 0 ≤ G ∧ G ≤ 4294967295 ∧
      G * (V1 * 4294967296 + V2) ≤ (U0 * 4294967296 + U1) * 4294967296 + U2 ∧
      ∀ q, q ≤ 4294967295 → q * (V1 * 4294967296 + V2) ≤ (U0 * 4294967296 + U1) * 4294967296 + U2 → q ≤ G := by
  have i0 : wrap64 ((k : Int) + (n : Int)) = ((k + n : Nat) : Int) := w_add (by clear e1 e2 e3 e4 e5; omega) (by clear e1 e2 e3 e4 e5; omega)
  have i1 : wrap64 (((k + n : Nat) : Int) - 1) = ((k + n - 1 : Nat) : Int) := w_pred (by clear e1 e2 e3 e4 e5; omega) (by clear e1 e2 e3 e4 e5; omega)
  have i2 : wrap64 ((n : Int) - 1) = ((n - 1 : Nat) : Int) := w_pred (by clear e1 e2 e3 e4 e5; omega) (by clear e1 e2 e3 e4 e5; omega)
  have c0 : (0 : Int) ≤ ((k + n : Nat) : Int) := n_nn _
  have c1 : ((k + n : Nat) : Int) < (a.length : Int) := n_lt hk
  have c2 : (0 : Int) ≤ ((k + n - 1 : Nat) : Int) := n_nn _
  have c3 : ((k + n - 1 : Nat) : Int) < (a.length : Int) := n_lt (by clear e1 e2 e3 e4 e5; omega)
  have c4 : (0 : Int) ≤ ((n - 1 : Nat) : Int) := n_nn _
  have c5 : ((n - 1 : Nat) : Int) < (n : Int) := n_lt (by clear e1 e2 e3 e4 e5; omega)
  have w1 := hb.getD (n - 1)
  have w2 := hb.getD (n - 2)
  have u0 := ha.getD (k + n)
  have u1 := ha.getD (k + n - 1)
  have u2 := ha.getD (k + n - 2)
  rw [e1] at w1
  rw [e2] at w2
  rw [e3] at u0
  rw [e4] at u1
  rw [e5] at u2
  have hj := join64 (a := U0) (b := U1) u0.1 u0.2 u1.1 u1.2
  obtain ⟨top, hT⟩ : ∃ top, top = U0 * 4294967296 + U1 := ⟨_, rfl⟩
  rw [← hT] at hj ⊢
  have ht0 : 0 ≤ top := by omega
  have ht1 : top ≤ 4294967296 * V1 + 4294967295 := by omega
  have cv : ∀ q : Int, q * V2 ≤ (top - q * V1) * 4294967296 + U2 ↔ q * (V1 * 4294967296 + V2) ≤ top * 4294967296 + U2 := fun q => by
    rw [Int.mul_add, ← Int.mul_assoc, Int.sub_mul]; omega
  obtain ⟨G, g0, g1, g2, g3⟩ := guess_num top V1 V2 U2 hV w2 u2 ht0
  refine ⟨G, ?_, g0, g1, g2, g3⟩
  have q0 : 0 ≤ top / V1 := Int.ediv_nonneg ht0 (by omega)
  have r0 := Int.emod_nonneg top (show V1 ≠ 0 by omega)
  have r1 := Int.emod_lt_of_pos top (show 0 < V1 by omega)
  have hd := Int.mul_ediv_add_emod top V1
  have q1 : top / V1 < 4294967298 := div_lt (by omega) (by omega)
  have hGq : G ≤ top / V1 := by
    refine (Int.le_ediv_iff_mul_le (by omega)).2 ?_
    rcases Int.lt_or_le top (G * V1) with c | c
    · have := (cv G).2 g2
      have m0 : 0 ≤ G * V2 := Int.mul_nonneg g0 w2.1
      omega
    · exact c
  have hr : top % V1 = top - top / V1 * V1 := by rw [Int.mul_comm]; omega
  have L := guess_l0 a b ha hb k n hn h2 hk hla V1 V2 U2 top G e1 e2 e5 hV ht1 g0 g1 ((cv G).2 g2) (fun q c1 c2 c3 => by have := g3 q c1 ((cv q).1 c3); omega) (top / V1 - G).toNat (top / V1) (top % V1) (by omega) hr r0 (by omega) (by omega)
  have i3 : IntKind.u64.wrap U0 = U0 := u64_in u0.1 (by omega)
  have i4 : IntKind.u64.wrap V1 = V1 := u64_in w1.1 (by omega)
  have i5 : IntKind.u64.wrap (Int.tdiv top V1) = top / V1 := by rw [tdiv_pos ht0, u64_in q0 (by omega)]
  have i6 : Int.tmod top V1 = top % V1 := tmod_pos ht0
  have c6 : ¬ V1 = 0 := by omega
  unfold nat_guess.f
  rw [hn]
  simp only [i0, i1, i2, rd_nat, e1, e3, e4, i3, hj, i4, i5, i6, if_pos c0, if_pos c1, if_pos c2, if_pos c3, if_pos c4, if_pos c5, if_neg c6]
  exact L
end Go.Proofs.YtdgbeejhccogpaaDoor.F
