/- What the printed product of the document's answer for layer nat tells, in numbers. No condition beyond the lists' lengths. -/
import Derived.Test.YtdgbeejhccogpaaDoorTR2
namespace Go.Proofs.YtdgbeejhccogpaaDoor.F
set_option linter.unusedSimpArgs false
set_option linter.unusedVariables false
open Go.RowKit Go.Proofs.YtdgbeejhccogpaaDoor.T Go.Proofs.YtdgbeejhccogpaaDoorW.PrintWords Go.Proofs.YtdgbeejhccogpaaDoorW.PrintLast Go.Proofs.YtdgbeejhccogpaaDoorW.PrintMore Go.Proofs.YtdgbeejhccogpaaDoor.M

theorem pow16_pos (n : Nat) : (0 : Int) < 65536 ^ n := Int.pow_pos (by decide)
theorem D.set {B : Int} {a : List Int} (ha : D B a) (i : Nat) {v : Int} (h0 : 0 ≤ v) (h1 : v < B) : D B (a.set i v) := fun y hy => by
  rcases List.mem_or_eq_of_mem_set hy with h | rfl
  · exact ha y h
  · exact ⟨h0, h1⟩
theorem rmul_l1 (x y : List Int) (hx : D 65536 x) (hy : D 65536 y) (n : Nat) (i : Nat) (hi : i < x.length) (hlx : x.length < 1099511627776) (hly : y.length < 1099511627776) {R : List Int} (m : Nat) :
    ∀ (o : List Int) (c : Int) (j : Nat), j + m = y.length → D 65536 o → i + y.length < o.length → o.length < 4398046511104 → 0 ≤ c → c < 65536 → o.getD (i + y.length) 0 = 0 →
    Ev (fun k => samphireref02_Mul.l0 k (n : Int) (y.length : Int) x y (o.take (i + j) ++ (carr 65536 (fun t => x.getD i 0 * y.getD t 0 + o.getD (i + t) 0) m c j).1 ++ [(carr 65536 (fun t => x.getD i 0 * y.getD t 0 + o.getD (i + t) 0) m c j).2] ++ o.drop (i + y.length + 1)) ((i + 1 : Nat) : Int)) R →
    i < n → Ev (fun k => samphireref02_Mul.l1 k (n : Int) (y.length : Int) x y o (i : Int) c (j : Int)) R := by
  induction m with
  | zero =>
    intro o c j h ho hl hL h0 h1 hz H hin
    refine Ev.step (f := fun k => samphireref02_Mul.l0 k (n : Int) (y.length : Int) x y (o.take (i + j) ++ (carr 65536 (fun t => x.getD i 0 * y.getD t 0 + o.getD (i + t) 0) 0 c j).1 ++ [(carr 65536 (fun t => x.getD i 0 * y.getD t 0 + o.getD (i + t) 0) 0 c j).2] ++ o.drop (i + y.length + 1)) ((i + 1 : Nat) : Int)) (fun k => ?_) H
    simp only [samphireref02_Mul.l1]
    rw [if_neg (by omega), wrap64_in (n := (i : Int) + (y.length : Int)) (by omega) (by omega), if_pos (by omega), if_pos (by omega), wrap64_in (by omega) (by omega), show (i : Int) + (y.length : Int) = ((i + y.length : Nat) : Int) from by omega, rd_nat, hz, Int.zero_add, u64_in (by omega) (by omega)]
    simp only [carr, List.append_nil]
    rw [Int.toNat_natCast, show i + y.length + 1 = i + j + 1 from by omega, show i + y.length = i + j from by omega, List.set_eq_take_append_cons_drop, if_pos (by omega)]
    simp [List.append_assoc]
  | succ m ih =>
    intro o c j h ho hl hL h0 h1 hz H hin
    have dx := D.getD (by decide) hx i
    have dy := D.getD (by decide) hy j
    have d_o := D.getD (by decide) ho (i + j)
    have hm0 : 0 ≤ x.getD i 0 * y.getD j 0 := Int.mul_nonneg dx.1 dy.1
    have hm1 : x.getD i 0 * y.getD j 0 ≤ 65535 * y.getD j 0 := Int.mul_le_mul_of_nonneg_right (by omega) dy.1
    obtain ⟨v, hv⟩ : ∃ v, v = x.getD i 0 * y.getD j 0 + o.getD (i + j) 0 + c := ⟨_, rfl⟩
    have hv0 : 0 ≤ v := by omega
    have hv1 : v < 4294967296 := by omega
    refine Ev.step (f := fun k => samphireref02_Mul.l1 k (n : Int) (y.length : Int) x y (o.set (i + j) (v % 65536)) (i : Int) (v / 65536) ((j + 1 : Nat) : Int)) (fun k => ?_) ?_
    · simp only [samphireref02_Mul.l1]
      rw [if_pos (by omega), wrap64_in (n := (i : Int) + (j : Int)) (by omega) (by omega), if_pos (by omega), if_pos (by omega), if_pos (by omega), if_pos (by omega), if_pos (by omega), if_pos (by omega), show (i : Int) + (j : Int) = ((i + j : Nat) : Int) from by omega, rd_nat, rd_nat, rd_nat, Int.toNat_natCast, u64_in (n := x.getD i 0 * y.getD j 0) (by omega) (by omega), u64_in (n := o.getD (i + j) 0 + x.getD i 0 * y.getD j 0) (by omega) (by omega), u64_in (n := o.getD (i + j) 0 + x.getD i 0 * y.getD j 0 + c) (by omega) (by omega), show o.getD (i + j) 0 + x.getD i 0 * y.getD j 0 + c = v from by omega, tmod_pos hv0, tdiv_pos hv0, u64_in (by omega) (by omega), wrap64_in (by omega) (by omega)]
      rfl
    · refine ih (o.set (i + j) (v % 65536)) (v / 65536) (j + 1) (by omega) (D.set ho _ (by omega) (by omega)) (by simpa using hl) (by simpa using hL) (by omega) (by omega) (by rw [M.getD_set_ne _ _ _ _ (by omega)]; exact hz) ?_ hin
      have ec : ∀ t, j + 1 ≤ t → x.getD i 0 * y.getD t 0 + (o.set (i + j) (v % 65536)).getD (i + t) 0 = x.getD i 0 * y.getD t 0 + o.getD (i + t) 0 := fun t ht => by
        rw [M.getD_set_ne _ _ _ _ (by omega)]
      rw [carr_congr 65536 m _ _ ec, show i + (j + 1) = i + j + 1 from by omega, take_set_self _ _ _ (by omega), List.drop_set_of_lt (by omega)]
      simp only [carr] at H
      rw [← hv] at H
      simpa [List.append_assoc] using H
theorem rmul_l0 (x y : List Int) (hx : D 65536 x) (hy : D 65536 y) (hlx : x.length < 536870912) (hly : y.length < 536870912) (m : Nat) :
    ∀ (o : List Int) (i : Nat), i + m = x.length → D 65536 o → o.length = x.length + y.length + 2 → vb 65536 (o.take (i + y.length)) = vb 65536 (x.take i) * vb 65536 y → (∀ t, i + y.length ≤ t → o.getD t 0 = 0) →
    Ev (fun k => samphireref02_Mul.l0 k (x.length : Int) (y.length : Int) x y o (i : Int)) (lim (vb 65536 x * vb 65536 y).toNat) := by
  induction m with
  | zero =>
    intro o i h ho hl hv hz
    refine Ev.step (f := fun k => (samphireref02_Whole.f k o).bind fun t => some t) (fun k => ?_) ?_
    · simp only [samphireref02_Mul.l0]; rw [if_neg (by omega)]
    · refine Ev.bind (a := lim (vb 65536 x * vb 65536 y).toNat) ?_ (Ev.now _)
      have := whole_ev o ho (by omega)
      have e : vb 65536 o = vb 65536 x * vb 65536 y := by
        rw [List.take_of_length_le (show x.length ≤ i by omega)] at hv
        rw [← hv]
        have s : o = o.take (i + y.length) ++ o.drop (i + y.length) := (List.take_append_drop _ _).symm
        conv => lhs; rw [s]
        rw [vb_append]
        have z : ∀ (l : List Int), (∀ t, l.getD t 0 = 0) → vb 65536 l = 0 := by
          intro l
          induction l with
          | nil => intro _; rfl
          | cons a r ih2 =>
            intro hh
            have h0 := hh 0
            have h1 := ih2 (fun t => by have := hh (t + 1); simpa using this)
            simp only [List.getD_cons_zero] at h0
            simp only [vb, h0, h1]
            rfl
        rw [z (o.drop (i + y.length)) (fun t => by
          have := hz (i + y.length + t) (by omega)
          simpa [List.getD, List.getElem?_drop] using this)]
        omega
      rw [e] at this
      exact this
  | succ m ih =>
    intro o i h ho hl hv hz
    have dx := D.getD (by decide) hx i
    refine Ev.step (f := fun k => samphireref02_Mul.l1 k (x.length : Int) (y.length : Int) x y o (i : Int) 0 ((0 : Nat) : Int)) (fun k => ?_) ?_
    · simp only [samphireref02_Mul.l0]
      rw [if_pos (by omega)]
      rfl
    · refine rmul_l1 x y hx hy x.length i (by omega) (by omega) (by omega) y.length o 0 0 (by omega) ho (by omega) (by omega) (by omega) (by omega) (hz _ (by omega)) ?_ (by omega)
      have hD := carr_D (B := 65536) (by decide) (fun t => x.getD i 0 * y.getD t 0 + o.getD (i + t) 0) y.length 0 0
      have hC := carr_val 65536 (fun t => x.getD i 0 * y.getD t 0 + o.getD (i + t) 0) y.length 0 0
      have hL := carr_len 65536 (fun t => x.getD i 0 * y.getD t 0 + o.getD (i + t) 0) y.length 0 0
      rw [vs_add, vs_mul, vs_list _ _ _ _ (by omega), vs_seg _ _ _ _ _ (by omega), List.drop_zero, Nat.add_zero] at hC
      generalize (carr 65536 (fun t => x.getD i 0 * y.getD t 0 + o.getD (i + t) 0) y.length 0 0).1 = S at hD hC hL ⊢
      generalize (carr 65536 (fun t => x.getD i 0 * y.getD t 0 + o.getD (i + t) 0) y.length 0 0).2 = q at hC ⊢
      have s0 := vb_nonneg (by decide) hD
      have s1 := vb_lt (by decide) hD
      rw [hL] at s1
      have b0 := vb_nonneg (by decide) hy
      have b1 := vb_lt (by decide) hy
      have hseg := (ho.drop i).take y.length
      have g0 := vb_nonneg (by decide) hseg
      have g1 := vb_lt (by decide) hseg
      rw [List.length_take, List.length_drop, Nat.min_eq_left (by omega)] at g1
      have p0 := pow16_pos y.length
      have e1 : x.getD i 0 * vb 65536 y ≤ 65535 * vb 65536 y := Int.mul_le_mul_of_nonneg_right (by omega) b0
      have e0 : 0 ≤ x.getD i 0 * vb 65536 y := Int.mul_nonneg dx.1 b0
      have q0 : 0 ≤ q := by
        rcases Int.lt_or_le q 0 with c | c
        · have : (65536 : Int) ^ y.length * (q + 1) ≤ 0 := Int.mul_nonpos_of_nonneg_of_nonpos (by omega) (by omega)
          rw [Int.mul_add] at this
          omega
        · exact c
      have q1 : q < 65536 := by
        rcases Int.lt_or_le q 65536 with c | c
        · exact c
        · have : (65536 : Int) ^ y.length * 65536 ≤ 65536 ^ y.length * q := Int.mul_le_mul_of_nonneg_left c (by omega)
          omega
      rw [Nat.add_zero]
      have wt := ho.take i
      have lt : (o.take i).length = i := by rw [List.length_take]; omega
      have lS : (o.take i ++ S ++ [q]).length = i + 1 + y.length := by simp [lt, hL]; omega
      refine ih (o.take i ++ S ++ [q] ++ o.drop (i + y.length + 1)) (i + 1) (by omega) (((wt.append hD).append (D.cons q0 q1 (D.nil _))).append (ho.drop _)) (by simp [lt, hL]; omega) ?_ ?_
      · rw [← lS, List.take_left, vb_append, vb_append, List.length_append, lt, hL, take_snoc x i (by omega), vb_append, List.length_take, Nat.min_eq_left (by omega)]
        have et : o.take (i + y.length) = o.take i ++ (o.drop i).take y.length := List.take_add
        rw [et, vb_append, lt] at hv
        have hq : vb 65536 [q] = q := by simp [vb]
        have hx1 : vb 65536 [x.getD i 0] = x.getD i 0 := by simp [vb]
        rw [hq, hx1, Int.add_mul, ← hv]
        have k1 : (65536 : Int) ^ (i + y.length) * q = 65536 ^ i * (65536 ^ y.length * q) := by rw [Int.pow_add, Int.mul_assoc]
        rw [k1, Int.mul_assoc, Int.add_assoc, ← Int.mul_add, hC, Int.add_zero, Int.mul_add, Int.mul_comm (65536 ^ i) (x.getD i 0 * vb 65536 y)]
        omega
      · intro t ht
        rw [getD_append_right _ _ _ (by omega), lS]
        have : (o.drop (i + y.length + 1)).getD (t - (i + 1 + y.length)) 0 = o.getD t 0 := by
          simp only [List.getD, List.getElem?_drop]
          congr 2
          omega
        rw [this]
        exact hz t (by omega)
theorem rmul_ev (x y : Nat) (hx : (lim x).length < 268435456) (hy : (lim y).length < 268435456) : Ev (fun k => samphireref02_Mul.f k (lim x) (lim y)) (lim (x * y)) := by
  have hwx := W_lim x
  have hwy := W_lim y
  have ea : wrap64 (2 * ((lim x).length : Int)) = ((2 * (lim x).length : Nat) : Int) := by rw [wrap64_in (by omega) (by omega)]; omega
  have eb : wrap64 (2 * ((lim y).length : Int)) = ((2 * (lim y).length : Nat) : Int) := by rw [wrap64_in (by omega) (by omega)]; omega
  have hlx : (hl (lim x) (2 * (lim x).length) 0).length = 2 * (lim x).length := hl_len _ _ _
  have hly : (hl (lim y) (2 * (lim y).length) 0).length = 2 * (lim y).length := hl_len _ _ _
  have ec : wrap64 (wrap64 (((2 * (lim x).length : Nat) : Int) + ((2 * (lim y).length : Nat) : Int)) + 2) = ((2 * (lim x).length + 2 * (lim y).length + 2 : Nat) : Int) := by rw [wrap64_in (n := ((2 * (lim x).length : Nat) : Int) + ((2 * (lim y).length : Nat) : Int)) (by omega) (by omega), wrap64_in (by omega) (by omega)]; omega
  refine Ev.congr (f := fun k => (samphireref02_Half.f k (lim x) ((2 * (lim x).length : Nat) : Int)).bind fun p => (samphireref02_Half.f k (lim y) ((2 * (lim y).length : Nat) : Int)).bind fun q => samphireref02_Mul.l0 k ((2 * (lim x).length : Nat) : Int) ((2 * (lim y).length : Nat) : Int) p q (List.replicate (2 * (lim x).length + 2 * (lim y).length + 2) 0) 0) (fun k => ?_) ?_
  · unfold samphireref02_Mul.f
    rw [ea, eb, ec]
    have h0 : (0 : Int) ≤ ((2 * (lim x).length + 2 * (lim y).length + 2 : Nat) : Int) := by omega
    have h1 : 2 * (lim x).length + 2 * (lim y).length + 2 ≤ 35184372088832 := by omega
    simp only [Int.toNat_natCast, if_pos h0, if_pos h1]
  · refine Ev.bind (half_ev _ hwx _ (by omega) (by omega)) ?_
    refine Ev.bind (half_ev _ hwy _ (by omega) (by omega)) ?_
    have := rmul_l0 (hl (lim x) (2 * (lim x).length) 0) (hl (lim y) (2 * (lim y).length) 0) (hl_D hwx _ _) (hl_D hwy _ _) (by omega) (by omega) (2 * (lim x).length) (List.replicate (2 * (lim x).length + 2 * (lim y).length + 2) 0) 0 (by omega) ?_ (by rw [List.length_replicate]; omega) ?_ ?_
    · rw [hlx, hly, hl_val _ _ (Nat.le_refl _), hl_val _ _ (Nat.le_refl _), val_lim, val_lim, show ((x : Int) * (y : Int)).toNat = x * y from by rw [← Int.natCast_mul, Int.toNat_natCast]] at this
      exact this
    · intro z hz
      have := List.eq_of_mem_replicate hz
      omega
    · rw [List.take_replicate, List.take_zero]
      have : ∀ n : Nat, vb 65536 (List.replicate n 0) = 0 := by
        intro n
        induction n with
        | zero => rfl
        | succ n ih => simp only [List.replicate_succ, vb, ih]; rfl
      rw [this]
      simp [vb]
    · intro t ht
      simp only [List.getD, List.getElem?_replicate]
      split <;> rfl

/-! ### told -/
end Go.Proofs.YtdgbeejhccogpaaDoor.F
