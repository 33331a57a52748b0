/- What the printed functions of layer nat tell, in numbers: products, bits, and the exported calls. No condition beyond the lists' lengths. -/
import Derived.Test.YtdgbeejhccogpaaDoorTF2
namespace Go.Proofs.YtdgbeejhccogpaaDoor.F
set_option linter.unusedSimpArgs false
set_option linter.unusedVariables false
open Go.RowKit Go.Proofs.YtdgbeejhccogpaaDoor.T Go.Proofs.YtdgbeejhccogpaaDoorW.PrintWords Go.Proofs.YtdgbeejhccogpaaDoorW.PrintLast Go.Proofs.YtdgbeejhccogpaaDoorW.PrintMore Go.Proofs.YtdgbeejhccogpaaDoor.M

theorem mul_lt_sq {x y : Int} (hx0 : 0 ≤ x) (hx : x < 4294967296) (hy0 : 0 ≤ y) (hy : y < 4294967296) : 0 ≤ x * y ∧ x * y ≤ 18446744065119617025 := by
  refine ⟨Int.mul_nonneg hx0 hy0, ?_⟩
  have h1 : x * y ≤ 4294967295 * y := Int.mul_le_mul_of_nonneg_right (by omega) hy0
  omega
/-- One row of a product: the limbs from i on. -/
theorem times_l1 (b : List Int) (hb : W b) (x : Int) (hx0 : 0 ≤ x) (hx1 : x < 4294967296) (A : List Int) (n i : Nat) (hi : i < 1099511627776) (hlb : b.length < 1099511627776) {R : List Int} (m : Nat) :
    ∀ (o : List Int) (c : Int) (j : Nat), j + m = b.length → W o → i + b.length < o.length → o.length < 2199023255552 → 0 ≤ c → c < 4294967296 →
    Ev (fun k => nat_times.l0 k b (o.take (i + j) ++ (carr 4294967296 (fun t => x * b.getD t 0 + o.getD (i + t) 0) m c j).1 ++ [(carr 4294967296 (fun t => x * b.getD t 0 + o.getD (i + t) 0) m c j).2 % 4294967296] ++ o.drop (i + b.length + 1)) A (n : Int) ((i + 1 : Nat) : Int)) R →
    Ev (fun k => nat_times.l1 k b o (i : Int) x c A (n : Int) (i : Int) b (b.length : Int) (j : Int)) R := by
  induction m with
  | zero =>
    intro o c j h ho hl hL h0 h1 H
    refine Ev.step (f := fun k => nat_times.l0 k b (o.take (i + j) ++ (carr 4294967296 (fun t => x * b.getD t 0 + o.getD (i + t) 0) 0 c j).1 ++ [(carr 4294967296 (fun t => x * b.getD t 0 + o.getD (i + t) 0) 0 c j).2 % 4294967296] ++ o.drop (i + b.length + 1)) A (n : Int) ((i + 1 : Nat) : Int)) (fun k => ?_) H
    simp only [nat_times.l1]
    rw [if_neg (by omega), wrap64_in (n := (i : Int) + (b.length : Int)) (by omega) (by omega), if_pos (by omega), if_pos (by omega), wrap64_in (by omega) (by omega)]
    simp only [carr, List.append_nil]
    rw [show ((i : Int) + (b.length : Int)).toNat = i + j from by omega, show i + b.length + 1 = i + j + 1 from by omega, List.set_eq_take_append_cons_drop, if_pos (by omega)]
    simp [List.append_assoc]
  | succ m ih =>
    intro o c j h ho hl hL h0 h1 H
    have wb := hb.getD j
    have wo := ho.getD (i + j)
    have hm := mul_lt_sq hx0 hx1 wb.1 wb.2
    obtain ⟨v, hv⟩ : ∃ v, v = x * b.getD j 0 + o.getD (i + j) 0 + c := ⟨_, rfl⟩
    have hv0 : 0 ≤ v := by omega
    have hv1 : v < 18446744073709551616 := by omega
    refine Ev.step (f := fun k => nat_times.l1 k b (o.set (i + j) (v % 4294967296)) (i : Int) x (v / 4294967296) A (n : Int) (i : Int) b (b.length : Int) ((j + 1 : Nat) : Int)) (fun k => ?_) ?_
    · simp only [nat_times.l1]
      rw [if_pos (by omega), if_pos (by omega), if_pos (by omega), wrap64_in (n := (i : Int) + (j : Int)) (by omega) (by omega), if_pos (by omega), if_pos (by omega), rd_nat, show (i : Int) + (j : Int) = ((i + j : Nat) : Int) from by omega, rd_nat, Int.toNat_natCast, u64_in (n := x) (by omega) (by omega), u64_in (n := b.getD j 0) (by omega) (by omega), u64_in (n := o.getD (i + j) 0) (by omega) (by omega), u64_in (n := x * b.getD j 0) (by omega) (by omega), u64_in (n := x * b.getD j 0 + o.getD (i + j) 0) (by omega) (by omega), u64_in (by omega) (by omega), show c + (x * b.getD j 0 + o.getD (i + j) 0) = v from by omega, wrap64_in (by omega) (by omega)]
      rfl
    · refine ih (o.set (i + j) (v % 4294967296)) (v / 4294967296) (j + 1) (by omega) (ho.set _ (by omega) (by omega)) (by simpa using hl) (by simpa using hL) (by omega) (by omega) ?_
      have ec : ∀ t, j + 1 ≤ t → x * b.getD t 0 + (o.set (i + j) (v % 4294967296)).getD (i + t) 0 = x * b.getD t 0 + o.getD (i + t) 0 := fun t ht => by
        rw [M.getD_set_ne _ _ _ _ (by omega)]
      rw [carr_congr 4294967296 m _ _ ec, show i + (j + 1) = i + j + 1 from by omega, take_set_self _ _ _ (by omega), List.drop_set_of_lt (by omega)]
      simp only [carr] at H
      rw [← hv] at H
      simpa [List.append_assoc] using H
/-- The rows of a product, from the i-th on. -/
theorem times_l0 (a b : List Int) (ha : W a) (hb : W b) (hla : a.length < 1099511627776) (hlb : b.length < 1099511627776) (m : Nat) :
    ∀ (o : List Int) (i : Nat), i + m = a.length → W o → o.length = a.length + b.length → val (o.take (i + b.length)) = val (a.take i) * val b → (∀ t, i + b.length ≤ t → o.getD t 0 = 0) →
    Ev (fun k => nat_times.l0 k b o a (a.length : Int) (i : Int)) (lim (val a * val b).toNat) := by
  induction m with
  | zero =>
    intro o i h ho hl hv hz
    refine Ev.step (f := fun k => (nat_trim.f k o).bind fun t => some t) (fun k => ?_) ?_
    · simp only [nat_times.l0]; rw [if_neg (by omega)]
    · refine Ev.bind (a := lim (val a * val b).toNat) ?_ (Ev.now _)
      rw [List.take_of_length_le (by omega), List.take_of_length_le (by omega)] at hv
      have := trim_ev o (by omega)
      rw [trimL_lim ho, hv] at this
      exact this
  | succ m ih =>
    intro o i h ho hl hv hz
    have wa := ha.getD i
    refine Ev.step (f := fun k => nat_times.l1 k b o (i : Int) (a.getD i 0) 0 a (a.length : Int) (i : Int) b (b.length : Int) ((0 : Nat) : Int)) (fun k => ?_) ?_
    · simp only [nat_times.l0]
      rw [if_pos (by omega), if_pos (by omega), if_pos (by omega), rd_nat]
      rfl
    · refine times_l1 b hb (a.getD i 0) wa.1 wa.2 a a.length i (by omega) hlb b.length o 0 0 (by omega) ho (by omega) (by omega) (by omega) (by omega) ?_
      have hD := carr_D (B := 4294967296) (by decide) (fun t => a.getD i 0 * b.getD t 0 + o.getD (i + t) 0) b.length 0 0
      have hC := carr_val 4294967296 (fun t => a.getD i 0 * b.getD t 0 + o.getD (i + t) 0) b.length 0 0
      have hL := carr_len 4294967296 (fun t => a.getD i 0 * b.getD t 0 + o.getD (i + t) 0) b.length 0 0
      rw [vs_add, vs_mul, vs_list _ _ _ _ (by omega), vs_seg _ _ _ _ _ (by omega), List.drop_zero, vb_val, vb_val, vb_val, Nat.add_zero] at hC
      generalize (carr 4294967296 (fun t => a.getD i 0 * b.getD t 0 + o.getD (i + t) 0) b.length 0 0).1 = S at hD hC hL ⊢
      generalize (carr 4294967296 (fun t => a.getD i 0 * b.getD t 0 + o.getD (i + t) 0) b.length 0 0).2 = q at hC ⊢
      have hS := W_D.2 hD
      have s0 := val_nonneg hS
      have s1 := val_lt hS
      rw [hL] at s1
      have b0 := val_nonneg hb
      have b1 := val_lt hb
      have hseg := (ho.drop i).take b.length
      have g0 := val_nonneg hseg
      have g1 := val_lt hseg
      rw [List.length_take, List.length_drop, Nat.min_eq_left (by omega)] at g1
      have p0 := pow_pos b.length
      have e1 : a.getD i 0 * val b ≤ 4294967295 * val b := Int.mul_le_mul_of_nonneg_right (by omega) b0
      have e0 : 0 ≤ a.getD i 0 * val b := Int.mul_nonneg wa.1 b0
      have q0 : 0 ≤ q := by
        rcases Int.lt_or_le q 0 with c | c
        · have : (4294967296 : Int) ^ b.length * (q + 1) ≤ 0 := Int.mul_nonpos_of_nonneg_of_nonpos (by omega) (by omega)
          rw [Int.mul_add] at this
          omega
        · exact c
      have q1 : q < 4294967296 := by
        rcases Int.lt_or_le q 4294967296 with c | c
        · exact c
        · have : (4294967296 : Int) ^ b.length * 4294967296 ≤ 4294967296 ^ b.length * q := Int.mul_le_mul_of_nonneg_left c (by omega)
          omega
      rw [show q % 4294967296 = q from by omega, Nat.add_zero]
      have wt := ho.take i
      have lt : (o.take i).length = i := by rw [List.length_take]; omega
      have lS : (o.take i ++ S ++ [q]).length = i + 1 + b.length := by simp [lt, hL]; omega
      refine ih (o.take i ++ S ++ [q] ++ o.drop (i + b.length + 1)) (i + 1) (by omega) (((wt.append hS).append (W.cons q0 q1 W.nil)).append (ho.drop _)) (by simp [lt, hL]; omega) ?_ ?_
      · rw [← lS, List.take_left, val_append, val_append, List.length_append, lt, hL, take_snoc a i (by omega), val_append, List.length_take, Nat.min_eq_left (by omega)]
        have et : o.take (i + b.length) = o.take i ++ (o.drop i).take b.length := List.take_add
        rw [et, val_append, lt] at hv
        have hq : val [q] = q := by simp [val]
        have hx : val [a.getD i 0] = a.getD i 0 := by simp [val]
        rw [hq, hx, Int.add_mul, ← hv]
        have k1 : (4294967296 : Int) ^ (i + b.length) * q = 4294967296 ^ i * (4294967296 ^ b.length * q) := by rw [Int.pow_add, Int.mul_assoc]
        rw [k1, Int.mul_assoc, Int.add_assoc, ← Int.mul_add, hC, Int.add_zero, Int.mul_add, Int.mul_comm (4294967296 ^ i) (a.getD i 0 * val b)]
        omega
      · intro t ht
        rw [getD_append_right _ _ _ (by omega), lS]
        have : (o.drop (i + b.length + 1)).getD (t - (i + 1 + b.length)) 0 = o.getD t 0 := by
          simp only [List.getD, List.getElem?_drop]
          congr 2
          omega
        rw [this]
        exact hz t (by omega)
theorem times_ev (x y : Nat) (hx : (lim x).length < 1099511627776) (hy : (lim y).length < 1099511627776) : Ev (fun k => nat_times.f k (lim x) (lim y)) (lim (x * y)) := by
  refine Ev.congr (f := fun k => nat_times.l0 k (lim y) (List.replicate ((lim x).length + (lim y).length) 0) (lim x) ((lim x).length : Int) ((0 : Nat) : Int)) (fun k => ?_) ?_
  · unfold nat_times.f
    rw [wrap64_in (by omega) (by omega), if_pos (by omega), if_pos (by omega), show (((lim x).length : Int) + ((lim y).length : Int)).toNat = (lim x).length + (lim y).length from by omega]
    rfl
  · have := times_l0 (lim x) (lim y) (W_lim x) (W_lim y) hx hy (lim x).length (List.replicate ((lim x).length + (lim y).length) 0) 0 (by omega) (W.replicate _) (by simp) ?_ ?_
    · rw [val_lim, val_lim] at this
      rw [show ((x : Int) * (y : Int)).toNat = x * y from by rw [← Int.natCast_mul, Int.toNat_natCast]] at this
      exact this
    · rw [List.take_replicate, val_replicate]; simp [val]
    · intro t ht
      simp only [List.getD, List.getElem?_replicate]
      split <;> rfl

/-! ### the exported calls -/
theorem kept_eq (n : Nat) (h : (lim n).length < 9223372036854775808) : nat_kept.f (lim n) = some (if n < 4294967296 ^ 64 then (lim n, 0) else ([], 6)) := by
  unfold nat_kept.f
  by_cases c : n < 4294967296 ^ 64
  · have := len_le.2 c
    rw [if_neg (by omega), if_pos c]
  · have := len_lt.2 (Nat.le_of_not_lt c)
    rw [if_pos (by omega), if_neg c]
/-- What a call tells of a number: its limbs, or that it is too big. -/
def capped (n : Nat) : List Int × Int := if n < 4294967296 ^ 64 then (lim n, 0) else ([], 6)
theorem big_len {n m : Nat} (hm : m ≤ 1000000) (h : n < 4294967296 ^ m) : (lim n).length < 1099511627776 := by
  have := len_le.2 h
  omega
theorem mul_ev (x y : Nat) (hx : x < 4294967296 ^ 64) (hy : y < 4294967296 ^ 64) : Ev (fun k => nat_Mul.f k (lim x) (lim y)) (capped (x * y)) := by
  have lx := len_le.2 hx
  have ly := len_le.2 hy
  refine Ev.congr (f := fun k => nat_Mul.j0 k (lim x) (lim y) false) (fun k => ?_) ?_
  · unfold nat_Mul.f
    rw [right_eq _ (by omega), right_eq _ (by omega), right_lim hx, right_lim hy]
    rfl
  · refine Ev.step (f := fun k => (nat_times.f k (lim x) (lim y)).bind fun t => (nat_kept.f t).bind fun b => some (b.1, b.2)) (fun k => ?_) ?_
    · simp only [nat_Mul.j0]; rw [if_neg (by decide)]
    · refine Ev.bind (a := lim (x * y)) (times_ev x y (by omega) (by omega)) ?_
      have hl : (lim (x * y)).length ≤ 128 := len_le.2 (by
        rw [show (128 : Nat) = 64 + 64 from rfl, Nat.pow_add]
        exact Nat.mul_lt_mul'' hx hy)
      rw [kept_eq _ (by omega)]
      exact Ev.now _
theorem sub_ev (x y : Nat) (hx : x < 4294967296 ^ 64) (hy : y < 4294967296 ^ 64) : Ev (fun k => nat_Sub.f k (lim x) (lim y)) (if x < y then ([], 1) else (lim (x - y), 0)) := by
  have lx := len_le.2 hx
  have ly := len_le.2 hy
  refine Ev.congr (f := fun k => (nat_order.f k (lim x) (lim y)).bind fun t => (if t < 0 then some (([] : List Int), 1) else (nat_less.f k (lim x) (lim y)).bind fun u => some (u, 0))) (fun k => ?_) ?_
  · unfold nat_Sub.f
    rw [right_eq _ (by omega), right_eq _ (by omega), right_lim hx, right_lim hy]
    rfl
  · refine Ev.bind (a := cmpI x y) (order_ev x y (by omega) (by omega)) ?_
    by_cases c : x < y
    · rw [if_pos c, show cmpI x y = -1 from by unfold cmpI; rw [if_pos c]]
      exact Ev.now _
    · have hc : ¬ cmpI x y < 0 := by unfold cmpI; rw [if_neg c]; split <;> omega
      simp only [if_neg c, if_neg hc]
      exact Ev.bind (a := lim (x - y)) (less_ev x y (by omega) (by omega)) (Ev.now _)
theorem cmp_ev (x y : Nat) (hx : x < 4294967296 ^ 64) (hy : y < 4294967296 ^ 64) : Ev (fun k => nat_Cmp.f k (lim x) (lim y)) (cmpI x y) := by
  have lx := len_le.2 hx
  have ly := len_le.2 hy
  refine Ev.congr (f := fun k => (nat_order.f k (lim x) (lim y)).bind fun t => some t) (fun k => ?_) ?_
  · unfold nat_Cmp.f
    rw [right_eq _ (by omega), right_eq _ (by omega), right_lim hx, right_lim hy]
    rfl
  · exact Ev.bind (a := cmpI x y) (order_ev x y (by omega) (by omega)) (Ev.now _)
theorem mul_no (a b : List Int) (ha : a.length < 9223372036854775808) (hb : b.length < 9223372036854775808) (h : (rightB a && rightB b) = false) : Ev (fun k => nat_Mul.f k a b) ([], 1) := by
  have e : ∀ k, nat_Mul.j0 (k + 1) a b true = some ([], 1) := fun k => by simp only [nat_Mul.j0]; rfl
  refine Ev.congr (f := fun k => nat_Mul.j0 k a b true) (fun k => ?_) (Ev.step (f := fun _ => some ([], 1)) e (Ev.now _))
  unfold nat_Mul.f
  rw [right_eq _ ha, right_eq _ hb]
  cases h1 : rightB a <;> cases h2 : rightB b <;> simp_all
theorem sub_no (a b : List Int) (ha : a.length < 9223372036854775808) (hb : b.length < 9223372036854775808) (h : (rightB a && rightB b) = false) : Ev (fun k => nat_Sub.f k a b) ([], 1) := by
  refine Ev.congr (f := fun _ => some ([], 1)) (fun k => ?_) (Ev.now _)
  unfold nat_Sub.f
  rw [right_eq _ ha, right_eq _ hb]
  cases h1 : rightB a <;> cases h2 : rightB b <;> simp_all
theorem cmp_no (a b : List Int) (ha : a.length < 9223372036854775808) (hb : b.length < 9223372036854775808) (h : (rightB a && rightB b) = false) : Ev (fun k => nat_Cmp.f k a b) 0 := by
  refine Ev.congr (f := fun _ => some 0) (fun k => ?_) (Ev.now _)
  unfold nat_Cmp.f
  rw [right_eq _ ha, right_eq _ hb]
  cases h1 : rightB a <;> cases h2 : rightB b <;> simp_all
end Go.Proofs.YtdgbeejhccogpaaDoor.F
