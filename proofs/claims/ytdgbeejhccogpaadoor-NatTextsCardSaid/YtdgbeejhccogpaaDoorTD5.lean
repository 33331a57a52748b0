/- Division: one step. No condition beyond the lists' lengths. -/
import Derived.Test.YtdgbeejhccogpaaDoorTD4
namespace Go.Proofs.YtdgbeejhccogpaaDoor.F
set_option linter.unusedSimpArgs false
set_option linter.unusedVariables false
open Go.RowKit Go.Proofs.YtdgbeejhccogpaaDoor.T Go.Proofs.YtdgbeejhccogpaaDoorW.PrintWords Go.Proofs.YtdgbeejhccogpaaDoorW.PrintLast Go.Proofs.YtdgbeejhccogpaaDoorW.PrintMore Go.Proofs.YtdgbeejhccogpaaDoor.M

theorem two_cases {s P w R : Int} (s0 : 0 ≤ s) (s1 : s < P) (h : s + P * w = R) : (0 ≤ R → R < P → w = 0 ∧ s = R) ∧ (R < 0 → -P ≤ R → w = -1 ∧ s = R + P) := by
  have hP : 0 < P := by omega
  rcases Int.lt_or_le w (-1) with c | c
  · have : P * w ≤ P * (-2) := Int.mul_le_mul_of_nonneg_left (by omega) (by omega)
    constructor <;> intro _ _ <;> omega
  · rcases Int.lt_or_le 0 w with c2 | c2
    · have : P * 1 ≤ P * w := Int.mul_le_mul_of_nonneg_left (by omega) (by omega)
      constructor <;> intro _ _ <;> omega
    · rcases (show w = 0 ∨ w = -1 by omega) with rfl | rfl
      · constructor <;> intro _ _ <;> omega
      · constructor <;> intro _ _ <;> omega
theorem guess_bounds {P lx lv X V U W' G : Int} (hP : 0 < P) (lx0 : 0 ≤ lx) (lx1 : lx < P) (lv0 : 0 ≤ lv) (lv1 : lv < P) (hX : X = lx + P * U) (hV : V = lv + P * W') (hW : 4294967296 ≤ W') (hXV : X < 4294967296 * V) (hU : 0 ≤ U)
    (g0 : 0 ≤ G) (g1 : G ≤ 4294967295) (g2 : G * W' ≤ U) (g3 : ∀ q, q ≤ 4294967295 → q * W' ≤ U → q ≤ G) : 0 ≤ X / V ∧ X / V ≤ G ∧ G ≤ X / V + 1 ∧ X / V ≤ 4294967295 := by
  have w0 : P * 4294967296 ≤ P * W' := Int.mul_le_mul_of_nonneg_left hW (by omega)
  have u0 : 0 ≤ P * U := Int.mul_nonneg (by omega) hU
  have hV0 : 0 < V := by omega
  have q0 : 0 ≤ X / V := Int.ediv_nonneg (by omega) (by omega)
  have q1 : X / V < 4294967296 := div_lt hV0 hXV
  have q2 := Int.ediv_mul_le X (show V ≠ 0 by omega)
  refine ⟨q0, g3 _ (by omega) ?_, ?_, by omega⟩
  · have e1 : X / V * (P * W') ≤ X / V * V := Int.mul_le_mul_of_nonneg_left (by omega) q0
    have e2 : X / V * (P * W') = P * (X / V * W') := by rw [← Int.mul_assoc, Int.mul_comm (X / V) P, Int.mul_assoc]
    have e3 : P * (X / V * W') < P * (U + 1) := by rw [Int.mul_add]; omega
    have := Int.lt_of_mul_lt_mul_left e3 (by omega)
    omega
  · have e1 : G * lv ≤ 4294967295 * lv := Int.mul_le_mul_of_nonneg_right g1 lv0
    have e2 : P * (G * W') ≤ P * U := Int.mul_le_mul_of_nonneg_left g2 (by omega)
    have e3 : G * V = G * lv + P * (G * W') := by rw [hV, Int.mul_add, ← Int.mul_assoc G P, Int.mul_comm G P, Int.mul_assoc P]
    have e4 : (G - 1) * V ≤ X := by rw [Int.sub_mul]; omega
    have := (Int.le_ediv_iff_mul_le hV0).2 e4
    omega
theorem parts (p S r : List Int) (z : Int) (k n : Nat) (hp : p.length = k) (hS : S.length = n) :
    (p ++ S ++ [z] ++ r).take k = p ∧ (p ++ S ++ [z] ++ r).drop k = S ++ z :: r ∧ (p ++ S ++ [z] ++ r).getD (k + n) 0 = z ∧ (p ++ S ++ [z] ++ r).drop (k + n + 1) = r ∧ ((p ++ S ++ [z] ++ r).drop k).take n = S := by
  have e : p ++ S ++ [z] ++ r = p ++ (S ++ z :: r) := by simp
  have e2 : p ++ S ++ [z] ++ r = (p ++ S ++ [z]) ++ r := rfl
  have l2 : (p ++ S ++ [z]).length = k + n + 1 := by simp [hp, hS]; omega
  refine ⟨?_, ?_, ?_, ?_, ?_⟩
  · rw [e, ← hp, List.take_left]
  · rw [e, ← hp, List.drop_left]
  · rw [e, M.getD_append_right _ _ _ (by omega), M.getD_append_right _ _ _ (by omega)]
    rw [show k + n - p.length - S.length = 0 from by omega]
    rfl
  · rw [← l2, List.drop_left]
  · rw [e, ← hp, List.drop_left, ← hS, List.take_left]
theorem val_split (l : List Int) (k : Nat) (h : k ≤ l.length) : val l = val (l.take k) + 4294967296 ^ k * val (l.drop k) := by
  have := val_append (l.take k) (l.drop k)
  rw [List.take_append_drop, List.length_take, Nat.min_eq_left h] at this
  exact this
theorem val_cons' (l : List Int) (k : Nat) (h : k < l.length) : val (l.drop k) = l.getD k 0 + 4294967296 * val (l.drop (k + 1)) := by
  rw [drop_cons l k h]; rfl
theorem drop_split (l : List Int) (k n : Nat) (h : k + n ≤ l.length) : val (l.drop k) = val ((l.drop k).take n) + 4294967296 ^ n * val (l.drop (k + n)) := by
  have := val_split (l.drop k) n (by rw [List.length_drop]; omega)
  rw [List.drop_drop] at this
  exact this
def Good (x y : List Int) (k : Nat) (v : Int) : Prop := W y ∧ y.length = x.length ∧ y.take k = x.take k ∧ val (y.drop k) = v
theorem good_of {x : List Int} {k n : Nat} {S : List Int} {v : Int} (hx : W x) (hk : k + n < x.length) (hS : W S) (lS : S.length = n) (hr : val (x.drop (k + n + 1)) = 0) (hv : val S = v) :
    Good x (x.take k ++ S ++ [0] ++ x.drop (k + n + 1)) k v := by
  have hp : (x.take k).length = k := by rw [List.length_take]; omega
  obtain ⟨a, b, c, d, e⟩ := parts (x.take k) S (x.drop (k + n + 1)) 0 k n hp lS
  refine ⟨(((hx.take k).append hS).append (W.cons (by omega) (by omega) W.nil)).append (hx.drop _), ?_, a, ?_⟩
  · simp [hp, lS]; omega
  · rw [b, val_append]
    simp only [val, hr]
    omega
theorem step_num {P X X1 xk lx lr lv U0 U1 U2 Z V V1 V2 : Int} (hP : 0 < P) (hk0 : 0 ≤ xk) (hk1 : xk < 4294967296) (hX : X = xk + 4294967296 * X1) (hX2 : X = lx + P * (U2 + 4294967296 * (U1 + 4294967296 * (U0 + 4294967296 * Z))))
    (hX1 : X1 = lr + P * (U1 + 4294967296 * (U0 + 4294967296 * Z))) (hV : V = lv + P * (V2 + 4294967296 * V1)) (hr : 0 ≤ lr) (hl : lv < P) (u0 : 0 ≤ U0) (u1 : 0 ≤ U1) (v1 : V1 < 4294967296) (v2 : V2 < 4294967296) (hz : 0 ≤ Z) (h : X1 < V) :
    Z = 0 ∧ U0 ≤ V1 ∧ X < 4294967296 * V ∧ X = lx + P * ((U0 * 4294967296 + U1) * 4294967296 + U2) ∧ V = lv + P * (V1 * 4294967296 + V2) := by
  have e : P * (U1 + 4294967296 * (U0 + 4294967296 * Z)) < P * (1 + (V2 + 4294967296 * V1)) := by rw [Int.mul_add P 1]; omega
  have e2 := Int.lt_of_mul_lt_mul_left e (by omega)
  have hz0 : Z = 0 := by omega
  refine ⟨hz0, by omega, by omega, ?_, ?_⟩
  · rw [hX2, hz0, show (U0 * 4294967296 + U1) * 4294967296 + U2 = U2 + 4294967296 * (U1 + 4294967296 * (U0 + 4294967296 * 0)) from by omega]
  · rw [hV, show V1 * 4294967296 + V2 = V2 + 4294967296 * V1 from by omega]
theorem long_step (x b : List Int) (hx : W x) (hb : W b) (k n : Nat) (hn : b.length = n) (h2 : 2 ≤ n) (hk : k + n < x.length) (hla : x.length < 1099511627776) (hV : 2147483648 ≤ b.getD (n - 1) 0) (hX : val (x.drop (k + 1)) < val b) :
    ∃ (Q G : Int) (fl : Bool) (x1 : List Int), Q = val (x.drop k) / val b ∧ 0 ≤ Q ∧ Q ≤ 4294967295 ∧ Ev (fun f => nat_guess.f f x b (k : Int)) G ∧ Ev (fun f => nat_take.f f x b (k : Int) G) (fl, x1) ∧
      (fl = false → G = Q ∧ Good x x1 k (val (x.drop k) % val b)) ∧
      (fl = true → G = Q + 1 ∧ ∃ x2, Ev (fun f => nat_give.f f x1 b (k : Int)) x2 ∧ Good x x2 k (val (x.drop k) % val b)) := by
  obtain ⟨d, rfl⟩ : ∃ d, n = d + 2 := ⟨n - 2, by omega⟩
  rw [show d + 2 - 1 = d + 1 from rfl] at hV
  -- what lies where
  have s1 := val_cons' x k (by omega)
  have s2 := drop_split x k d (by omega)
  have s3 := val_cons' x (k + d) (by omega)
  have s4 := val_cons' x (k + d + 1) (by omega)
  have s5 := val_cons' x (k + d + 2) (by omega)
  have t1 := val_split b d (by omega)
  have t2 := val_cons' b d (by omega)
  have t3 := val_cons' b (d + 1) (by omega)
  rw [List.drop_eq_nil_of_le (show b.length ≤ d + 1 + 1 by omega)] at t3
  have r1 := drop_split x (k + 1) d (by omega)
  have r0 := val_nonneg (hx.drop (k + d + 2 + 1))
  have r2 := val_nonneg ((hx.drop (k + 1)).take d)
  have l0 := val_nonneg ((hx.drop k).take d)
  have l1 := val_lt ((hx.drop k).take d)
  rw [List.length_take, List.length_drop, Nat.min_eq_left (by omega)] at l1
  have m0 := val_nonneg (hb.take d)
  have m1 := val_lt (hb.take d)
  rw [List.length_take, Nat.min_eq_left (by omega)] at m1
  have u0 := hx.getD (k + d + 2)
  have u1 := hx.getD (k + d + 1)
  have u2 := hx.getD (k + d)
  have v1 := hb.getD (d + 1)
  have v2 := hb.getD d
  have uk := hx.getD k
  have p0 := pow_pos d
  have T := take_ev x b hx hb
  have C := fun (q : Int) => carr_val 4294967296 (fun t => x.getD (k + t) 0 - q * b.getD t 0) (d + 2) 0 0
  have CD := fun (q : Int) => carr_D (B := 4294967296) (by decide) (fun t => x.getD (k + t) 0 - q * b.getD t 0) (d + 2) 0 0
  have CL := fun (q : Int) => carr_len 4294967296 (fun t => x.getD (k + t) 0 - q * b.getD t 0) (d + 2) 0 0
  have eV : vs 4294967296 (fun t => b.getD t 0) (d + 2) 0 = val b := by rw [vs_list _ _ _ _ (by omega), List.drop_zero, vb_val]
  have eX : vs 4294967296 (fun t => x.getD (k + t) 0) (d + 2) 0 = val ((x.drop k).take (d + 2)) := by rw [vs_seg _ _ _ _ _ (by omega), vb_val]; rfl
  have s6 := drop_split x k (d + 2) (by omega)
  have xt := (hx.drop k).take (d + 2)
  have P2 := pow_pos (d + 2)
  have V2l := val_lt hb
  rw [hn] at V2l
  rw [show x.drop (k + 1 + d) = x.drop (k + d + 1) from by rw [show k + 1 + d = k + d + 1 from by omega]] at r1
  rw [show x.drop (k + d + 1 + 1) = x.drop (k + d + 2) from rfl, s5] at s4
  rw [s4] at s3 r1
  rw [s3] at s2
  rw [t3] at t2
  rw [t2] at t1
  simp only [val, Int.mul_zero, Int.add_zero] at t1
  rw [show x.drop (k + (d + 2)) = x.drop (k + d + 2) from rfl, s5] at s6
  obtain ⟨z0, hU, hXV, eX3, eV3⟩ := step_num p0 uk.1 uk.2 s1 s2 r1 t1 r2 m1 u0.1 u1.1 v1.2 v2.2 r0 hX
  obtain ⟨G, eG, g0, g1, g2, g3⟩ := guess_ev x b hx hb k (d + 2) hn h2 hk hla (b.getD (d + 1) 0) (b.getD d 0) (x.getD (k + d + 2) 0) (x.getD (k + d + 1) 0) (x.getD (k + d) 0) rfl rfl rfl rfl rfl hV hU
  obtain ⟨q0, q1, q2, q3⟩ := guess_bounds p0 l0 l1 m0 m1 eX3 eV3 (by omega) hXV (by omega) g0 g1 g2 g3
  have TG := T G g0 (by omega) k (d + 2) hn hk hla
  have CG := C G
  rw [vs_sub, vs_mul, eV, eX, vb_val] at CG
  have SW := W_D.2 (CD G)
  have SL := CL G
  have hz : val (x.drop (k + (d + 2) + 1)) = 0 := z0
  rw [show x.getD (k + (d + 2)) 0 = x.getD (k + d + 2) 0 from rfl] at TG
  rw [z0] at s6
  clear T C CD CL s1 s2 s3 s4 s5 t1 t2 t3 r1 r2 l0 l1 m0 m1 uk v2 u2 u1 eX3 eV3 g2 g3 p0 hX hXV eX
  generalize (carr 4294967296 (fun t => x.getD (k + t) 0 - G * b.getD t 0) (d + 2) 0 0).1 = S at CG SW SL TG
  generalize (carr 4294967296 (fun t => x.getD (k + t) 0 - G * b.getD t 0) (d + 2) 0 0).2 = c at CG TG
  have S0 := val_nonneg SW
  have S1 := val_lt SW
  rw [SL] at S1
  have hVp : 0 < val b := by
    have := val_nonneg hb
    rcases Int.lt_or_le 0 (val b) with c1 | c1
    · exact c1
    · have h0 : val b = 0 := by omega
      have := val_cons' b (d + 1) (by omega)
      have h3 := val_split b (d + 1) (by omega)
      have h4 := val_nonneg (hb.take (d + 1))
      have h5 := val_nonneg (hb.drop (d + 1 + 1))
      have h6 := pow_pos (d + 1)
      have : (4294967296 : Int) ^ (d + 1) * 1 ≤ 4294967296 ^ (d + 1) * val (b.drop (d + 1)) := Int.mul_le_mul_of_nonneg_left (by omega) (by omega)
      omega
  have R0 := Int.emod_nonneg (val (x.drop k)) (show val b ≠ 0 by omega)
  have R1 := Int.emod_lt_of_pos (val (x.drop k)) hVp
  have RE := Int.mul_ediv_add_emod (val (x.drop k)) (val b)
  obtain ⟨w, hw⟩ : ∃ w, w = x.getD (k + d + 2) 0 + c := ⟨_, rfl⟩
  rw [← hw] at TG
  have hR : val S + 4294967296 ^ (d + 2) * w = val (x.drop k) - G * val b := by
    rw [hw, Int.mul_add, s6]
    simp only [Int.mul_zero, Int.add_zero] at CG ⊢
    omega
  obtain ⟨K1, K2⟩ := two_cases S0 S1 hR
  refine ⟨_, G, _, _, rfl, q0, q3, eG, TG, ?_, ?_⟩
  · intro hf
    have hw0 := of_decide_eq_false hf
    rcases (show G = val (x.drop k) / val b ∨ G = val (x.drop k) / val b + 1 by omega) with e | e
    · have e1 : val (x.drop k) - G * val b = val (x.drop k) % val b := by rw [e, Int.mul_comm]; omega
      rw [e1] at K1
      obtain ⟨a1, a2⟩ := K1 R0 (by omega)
      refine ⟨e, ?_⟩
      have L := good_of hx hk SW SL hz a2
      rw [a1]
      exact L
    · exfalso
      have e1 : val (x.drop k) - G * val b = val (x.drop k) % val b - val b := by rw [e, Int.add_mul, Int.mul_comm (_ / _)]; omega
      rw [e1] at K2
      have := (K2 (by omega) (by omega)).1
      omega
  · intro hf
    have hw0 := of_decide_eq_true hf
    rcases (show G = val (x.drop k) / val b ∨ G = val (x.drop k) / val b + 1 by omega) with e | e
    · exfalso
      have e1 : val (x.drop k) - G * val b = val (x.drop k) % val b := by rw [e, Int.mul_comm]; omega
      rw [e1] at K1
      have := (K1 R0 (by omega)).1
      omega
    · have e1 : val (x.drop k) - G * val b = val (x.drop k) % val b - val b := by rw [e, Int.add_mul, Int.mul_comm (_ / _)]; omega
      rw [e1] at K2
      obtain ⟨a1, a2⟩ := K2 (by omega) (by omega)
      refine ⟨e, ?_⟩
      have hp : (x.take k).length = k := by rw [List.length_take]; omega
      rw [a1, show (-1 : Int) % 4294967296 = 4294967295 from rfl]
      obtain ⟨b1, b2, b3, b4, b5⟩ := parts (x.take k) S (x.drop (k + (d + 2) + 1)) 4294967295 k (d + 2) hp SL
      have W1 : W (x.take k ++ S ++ [4294967295] ++ x.drop (k + (d + 2) + 1)) := (((hx.take k).append SW).append (W.cons (by omega) (by omega) W.nil)).append (hx.drop _)
      have L1 : (x.take k ++ S ++ [4294967295] ++ x.drop (k + (d + 2) + 1)).length = x.length := by simp [hp, SL]; omega
      generalize x.take k ++ S ++ [4294967295] ++ x.drop (k + (d + 2) + 1) = y at b1 b2 b3 b4 b5 W1 L1 ⊢
      have GV := give_ev y b W1 hb k (d + 2) hn (by omega) (by omega)
      have C2 := carr_val 4294967296 (fun t => y.getD (k + t) 0 + b.getD t 0) (d + 2) 0 0
      have D2 := carr_D (B := 4294967296) (by decide) (fun t => y.getD (k + t) 0 + b.getD t 0) (d + 2) 0 0
      have N2 := carr_len 4294967296 (fun t => y.getD (k + t) 0 + b.getD t 0) (d + 2) 0 0
      rw [vs_add, eV, vs_seg _ _ _ _ _ (by omega), vb_val, vb_val, show y.drop (k + 0) = y.drop k from rfl, b5] at C2
      rw [b1, b3, b4] at GV
      have SW2 := W_D.2 D2
      generalize (carr 4294967296 (fun t => y.getD (k + t) 0 + b.getD t 0) (d + 2) 0 0).1 = S2 at C2 SW2 N2 GV
      generalize (carr 4294967296 (fun t => y.getD (k + t) 0 + b.getD t 0) (d + 2) 0 0).2 = c2 at C2 GV
      have S20 := val_nonneg SW2
      have S21 := val_lt SW2
      rw [N2] at S21
      have hR2 : val S2 + 4294967296 ^ (d + 2) * (c2 - 1) = val (x.drop k) % val b := by rw [Int.mul_sub]; omega
      obtain ⟨f1, f2⟩ := (two_cases S20 S21 hR2).1 R0 (by omega)
      have hc : (4294967295 + c2) % 4294967296 = 0 := by omega
      rw [hc] at GV
      exact ⟨_, GV, good_of hx hk SW2 N2 hz f2⟩
end Go.Proofs.YtdgbeejhccogpaaDoor.F
