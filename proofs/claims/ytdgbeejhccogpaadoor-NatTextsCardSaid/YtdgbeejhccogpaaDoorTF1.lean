/- What the printed functions of layer nat tell, in numbers: Right, trim, Of, order, sum, less. No condition beyond the lists' lengths. -/
import Derived.Test.YtdgbeejhccogpaaDoorTM
import Derived.Test.YtdgbeejhccogpaaDoorTx0
namespace Go.Proofs.YtdgbeejhccogpaaDoor.F
set_option linter.unusedSimpArgs false
set_option linter.unusedVariables false
open Go.RowKit Go.Proofs.YtdgbeejhccogpaaDoor.T Go.Proofs.YtdgbeejhccogpaaDoorW.PrintWords Go.Proofs.YtdgbeejhccogpaaDoorW.PrintLast Go.Proofs.YtdgbeejhccogpaaDoorW.PrintMore Go.Proofs.YtdgbeejhccogpaaDoor.M

theorem rd_nat (l : List Int) (n : Nat) : rd l (n : Int) = l.getD n 0 := by simp [rd]
theorem take_snoc (l : List Int) (n : Nat) (h : n < l.length) : l.take (n + 1) = l.take n ++ [l.getD n 0] := by
  rw [List.take_succ_eq_append_getElem h]
  simp [List.getD, h]
theorem drop_cons (l : List Int) (n : Nat) (h : n < l.length) : l.drop n = l.getD n 0 :: l.drop (n + 1) := by
  rw [List.drop_eq_getElem_cons h]
  simp [List.getD, h]
theorem take_set_self (l : List Int) (n : Nat) (v : Int) (h : n < l.length) : (l.set n v).take (n + 1) = l.take n ++ [v] := by
  rw [take_snoc _ _ (by simpa using h)]
  congr 1
  · rw [List.take_set_of_le (Nat.le_refl n)]
  · simp [List.getD, h]
theorem getD_end (l : List Int) (n : Nat) (h : l.length ≤ n) : l.getD n 0 = 0 := by simp [List.getD, List.getElem?_eq_none h]

theorem trim_l0 (l : List Int) (hl : l.length < 9223372036854775808) (n : Nat) (hn : n ≤ l.length) : Ev (fun k => nat_trim.l0 k l (n : Int)) (trimL (l.take n)) := by
  induction n with
  | zero =>
    refine Ev.step (f := fun _ => some []) (fun k => ?_) (by simpa [trimL] using Ev.now ([] : List Int))
    simp only [nat_trim.l0]
    rw [if_neg (by omega), if_pos (by omega), if_pos (by omega)]
    rfl
  | succ n ih =>
    have e : wrap64 (((n + 1 : Nat) : Int) - 1) = (n : Int) := by rw [wrap64_in (by omega) (by omega)]; omega
    have t := take_snoc l n (by omega)
    by_cases h0 : rd l n = 0
    · refine Ev.step (f := fun k => nat_trim.l0 k l (n : Int)) (fun k => ?_) ?_
      · simp only [nat_trim.l0]
        rw [if_pos (by omega), e, if_pos (by omega), if_pos (by omega), if_pos h0]
      · rw [rd_nat] at h0
        rw [t, h0, trimL_snoc]
        exact ih (by omega)
    · refine Ev.step (f := fun _ => some (l.take (n + 1))) (fun k => ?_) ?_
      · simp only [nat_trim.l0]
        rw [if_pos (by omega), e, if_pos (by omega), if_pos (by omega), if_neg h0, if_pos (by omega), if_pos (by omega)]
        rfl
      · rw [rd_nat] at h0
        rw [t, trimL_snoc_ne _ h0]
        exact Ev.now _
theorem trim_ev (l : List Int) (hl : l.length < 9223372036854775808) : Ev (fun k => nat_trim.f k l) (trimL l) := by
  have := trim_l0 l hl l.length (Nat.le_refl _)
  rw [List.take_length] at this
  exact this
theorem trim_lim {l : List Int} (hl : l.length < 9223372036854775808) (hw : W l) {n : Nat} (hv : val l = n) : Ev (fun k => nat_trim.f k l) (lim n) := by
  have := trim_ev l hl
  rw [trimL_lim hw, hv] at this
  exact this

theorem of_ev (n : Nat) (h : n < 18446744073709551616) : Ev (fun k => nat_Of.f k (n : Int)) (lim n) := by
  refine Ev.bind (g := fun k => nat_trim.f k [(n : Int) % 4294967296, ((n : Int) / 4294967296) % 4294967296]) (f := fun _ t => some t) (a := lim n) ?_ (Ev.now _)
  refine trim_lim (by simp) ?_ ?_
  · exact W.cons (by omega) (by omega) (W.cons (by omega) (by omega) W.nil)
  · simp only [val]; omega
theorem of_ev' {x : Int} (n : Nat) (hx : x = n) (h : n < 18446744073709551616) : Ev (fun k => nat_Of.f k x) (lim n) := by subst hx; exact of_ev n h

theorem clone_eq (l : List Int) (h : l.length < 35184372088832) : api_Nat_uint32.f l = some l := by
  unfold api_Nat_uint32.f
  simp only [Option.bind_some]
  rw [if_pos (by simpa using h)]
  rfl

/-- Is it a natural? -/
def rightB (l : List Int) : Bool := decide (l.length ≤ 64 ∧ (l.length = 0 ∨ l.getD (l.length - 1) 0 ≠ 0))
theorem right_eq (l : List Int) (hl : l.length < 9223372036854775808) : nat_Right.f l = some (rightB l) := by
  unfold nat_Right.f rightB
  by_cases h1 : l.length ≤ 64
  · rw [if_pos (by omega)]
    by_cases h2 : l.length = 0
    · rw [if_pos (by omega)]; simp [h1, h2]
    · have e : wrap64 ((l.length : Int) - 1) = ((l.length - 1 : Nat) : Int) := by rw [wrap64_in (by omega) (by omega)]; omega
      rw [if_neg (by omega), e, if_pos (by omega), if_pos (by omega), rd_nat]
      simp only [h1, h2, true_and, false_or, bne, ne_eq]
      congr 1
      generalize l.getD (l.length - 1) 0 = z
      by_cases c : z = 0 <;> simp [c]
  · rw [if_neg (by omega)]; simp [h1]
theorem right_can {l : List Int} (h : rightB l = true) : Cano l ∧ l.length ≤ 64 := by
  unfold rightB at h
  have h' := of_decide_eq_true h
  refine ⟨can_of fun h0 => ?_, h'.1⟩
  rcases h'.2 with h2 | h2
  · omega
  · exact h2
theorem right_lim {n : Nat} (h : n < 4294967296 ^ 64) : rightB (lim n) = true := by
  unfold rightB
  refine decide_eq_true ⟨len_le.2 h, ?_⟩
  by_cases h0 : (lim n).length = 0
  · exact .inl h0
  · exact .inr (last_ne (lim_can n) (by omega))
theorem right_big {n : Nat} (h : 4294967296 ^ 64 ≤ n) : rightB (lim n) = false := by
  unfold rightB
  refine decide_eq_false fun h' => ?_
  have := len_lt.2 h
  omega
/-- A natural is the limbs of a number below 2^2048. -/
theorem right_nat {l : List Int} (hw : W l) (h : rightB l = true) : ∃ n : Nat, l = lim n ∧ n < 4294967296 ^ 64 := by
  obtain ⟨hc, h64⟩ := right_can h
  have e := can_lim hw hc
  refine ⟨(val l).toNat, e, ?_⟩
  rw [e] at h64
  exact len_le.1 h64

/-! ### order -/
def cmpI (x y : Nat) : Int := if x < y then -1 else if x = y then 0 else 1
theorem val_take_cmp (a b : List Int) (ha : W a) (hb : W b) (n : Nat) (h1 : n < a.length) (h2 : n < b.length) :
    (a.getD n 0 < b.getD n 0 → val (a.take (n + 1)) < val (b.take (n + 1))) := by
  intro h
  rw [take_snoc a n h1, take_snoc b n h2, val_append, val_append, List.length_take, List.length_take, Nat.min_eq_left (by omega), Nat.min_eq_left (by omega)]
  have p := pow_pos n
  have va := val_lt (ha.take n)
  have vb := val_nonneg (hb.take n)
  rw [List.length_take, Nat.min_eq_left (by omega)] at va
  simp only [val]
  have : (4294967296 : Int) ^ n * (a.getD n 0 + 1) ≤ 4294967296 ^ n * b.getD n 0 := Int.mul_le_mul_of_nonneg_left (by omega) (by omega)
  rw [Int.mul_add] at this
  simp only [Int.mul_zero, Int.add_zero]
  omega
theorem order_l0 (a b : List Int) (ha : W a) (hb : W b) (hl : a.length = b.length) (hm : a.length < 9223372036854775808) (n : Nat) (hn : n ≤ a.length) :
    Ev (fun k => nat_order.l0 k a b ((n : Int) - 1)) (cmpI (val (a.take n)).toNat (val (b.take n)).toNat) := by
  induction n with
  | zero =>
    refine Ev.step (f := fun _ => some 0) (fun k => ?_) (by simpa [val, cmpI] using Ev.now (0 : Int))
    simp only [nat_order.l0]
    rw [if_neg (by omega)]
  | succ n ih =>
    have e0 : ((n + 1 : Nat) : Int) - 1 = (n : Int) := by omega
    have e : wrap64 ((n : Int) - 1) = (n : Int) - 1 := wrap64_in (by omega) (by omega)
    have na := val_nonneg (ha.take (n + 1))
    have nb := val_nonneg (hb.take (n + 1))
    rw [e0]
    by_cases h1 : rd a n < rd b n
    · refine Ev.step (f := fun _ => some (-1)) (fun k => ?_) ?_
      · simp only [nat_order.l0]
        rw [if_pos (by omega), if_pos (by omega), if_pos (by omega), if_pos (by omega), if_pos h1]
      · rw [rd_nat, rd_nat] at h1
        have := val_take_cmp a b ha hb n (by omega) (by omega) h1
        rw [show cmpI (val (a.take (n + 1))).toNat (val (b.take (n + 1))).toNat = -1 from by unfold cmpI; rw [if_pos (by omega)]]
        exact Ev.now _
    · by_cases h2 : rd a n > rd b n
      · refine Ev.step (f := fun _ => some 1) (fun k => ?_) ?_
        · simp only [nat_order.l0]
          rw [if_pos (by omega), if_pos (by omega), if_pos (by omega), if_pos (by omega), if_neg h1, if_pos h2]
        · rw [rd_nat, rd_nat] at h2
          have := val_take_cmp b a hb ha n (by omega) (by omega) h2
          rw [show cmpI (val (a.take (n + 1))).toNat (val (b.take (n + 1))).toNat = 1 from by unfold cmpI; rw [if_neg (by omega), if_neg (by omega)]]
          exact Ev.now _
      · refine Ev.step (f := fun k => nat_order.l0 k a b ((n : Int) - 1)) (fun k => ?_) ?_
        · simp only [nat_order.l0]
          rw [if_pos (by omega), if_pos (by omega), if_pos (by omega), if_pos (by omega), if_neg h1, if_neg h2, e]
        · have h3 : a.getD n 0 = b.getD n 0 := by rw [rd_nat, rd_nat] at h1 h2; omega
          have := ih (by omega)
          rw [show cmpI (val (a.take (n + 1))).toNat (val (b.take (n + 1))).toNat = cmpI (val (a.take n)).toNat (val (b.take n)).toNat from ?_]
          · exact this
          · rw [take_snoc a n (by omega), take_snoc b n (by omega), val_append, val_append, List.length_take, List.length_take, Nat.min_eq_left (by omega), Nat.min_eq_left (by omega), h3]
            have p := pow_pos n
            have va := val_nonneg (ha.take n)
            have vb := val_nonneg (hb.take n)
            have hd := hb.getD n
            have : 0 ≤ (4294967296 : Int) ^ n * val [b.getD n 0] := Int.mul_nonneg (by omega) (val_nonneg (W.cons hd.1 hd.2 W.nil))
            unfold cmpI
            generalize (4294967296 : Int) ^ n * val [b.getD n 0] = z at this
            by_cases c1 : (val (a.take n)).toNat < (val (b.take n)).toNat
            · rw [if_pos c1, if_pos (by omega)]
            · rw [if_neg c1, if_neg (by omega)]
              by_cases c2 : (val (a.take n)).toNat = (val (b.take n)).toNat
              · rw [if_pos c2, if_pos (by omega)]
              · rw [if_neg c2, if_neg (by omega)]
theorem mxmn {z : Int} (h : z ≠ 0) : 2 * mn (mx z 0) 1 - 1 = if z < 0 then -1 else 1 := by
  unfold mn mx
  by_cases h1 : z < 0
  · rw [if_pos h1, if_pos h1, if_neg (by omega)]; rfl
  · rw [if_neg h1, if_neg h1]
    by_cases h2 : 1 < z
    · rw [if_pos h2]; rfl
    · rw [if_neg h2]; omega
theorem order_ev (x y : Nat) (hx : (lim x).length < 4611686018427387904) (hy : (lim y).length < 4611686018427387904) : Ev (fun k => nat_order.f k (lim x) (lim y)) (cmpI x y) := by
  unfold nat_order.f
  by_cases h : (lim x).length = (lim y).length
  · have := order_l0 (lim x) (lim y) (W_lim x) (W_lim y) h (by omega) (lim x).length (Nat.le_refl _)
    rw [List.take_length, h, List.take_length, val_lim, val_lim] at this
    refine Ev.congr (f := fun k => nat_order.l0 k (lim x) (lim y) (((lim y).length : Int) - 1)) (fun k => ?_) this
    rw [if_pos (by omega), wrap64_in (by omega) (by omega), h]
  · refine Ev.congr (f := fun _ => some (cmpI x y)) (fun k => ?_) (Ev.now _)
    rw [if_neg (by omega), wrap64_in (by omega) (by omega)]
    rw [mxmn (by omega)]
    congr 1
    unfold cmpI
    rcases Nat.lt_or_gt_of_ne h with h' | h'
    · have := lt_of_len h'
      rw [if_pos this, if_pos (by omega)]
    · have := lt_of_len h'
      rw [if_neg (by omega), if_neg (by omega), if_neg (by omega)]
end Go.Proofs.YtdgbeejhccogpaaDoor.F
