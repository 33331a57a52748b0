/- Division: shifts of limbs. No condition beyond the lists' lengths. -/
import Derived.Test.YtdgbeejhccogpaaDoorTD1
namespace Go.Proofs.YtdgbeejhccogpaaDoor.F
set_option linter.unusedSimpArgs false
set_option linter.unusedVariables false
open Go.RowKit Go.Proofs.YtdgbeejhccogpaaDoor.T Go.Proofs.YtdgbeejhccogpaaDoorW.PrintWords Go.Proofs.YtdgbeejhccogpaaDoorW.PrintLast Go.Proofs.YtdgbeejhccogpaaDoorW.PrintMore Go.Proofs.YtdgbeejhccogpaaDoor.M

theorem bits_comm (k : IntKind) (x y : Int) : Go.bits .or k x y = Go.bits .or k y x := by
  simp only [Go.bits, BitVec.or_comm]
theorem two_split (s : Nat) (hs : s < 32) : (2 : Int) ^ s * 2 ^ (32 - s) = 4294967296 := by
  rw [← Int.pow_add, show s + (32 - s) = 32 from by omega]; rfl
theorem two_pos (s : Nat) : (0 : Int) < 2 ^ s := Int.pow_pos (by decide)
theorem two_le (s t : Nat) (h : s ≤ t) : (2 : Int) ^ s ≤ 2 ^ t := by
  obtain ⟨d, rfl⟩ := Nat.exists_eq_add_of_le h
  rw [Int.pow_add]
  have a := two_pos s
  have b := two_pos d
  have := Int.mul_le_mul_of_nonneg_left (show (1 : Int) ≤ 2 ^ d by omega) (show (0 : Int) ≤ 2 ^ s by omega)
  omega
/-- What a limb gives, shifted, with what comes from below. -/
theorem shl_step {a c P Q : Int} (hP : 0 < P) (hQ : 0 < Q) (h : P * Q = 4294967296) (hc : 0 ≤ c) (hc1 : c < P) :
    (a * P + c) / 4294967296 = a / Q ∧ (a * P + c) % 4294967296 = P * (a % Q) + c ∧ a * P % 4294967296 = P * (a % Q) ∧ 0 ≤ P * (a % Q) ∧ P * (a % Q) + P ≤ 4294967296 := by
  have m0 := Int.emod_nonneg a (show Q ≠ 0 by omega)
  have m1 := Int.emod_lt_of_pos a hQ
  have e := Int.mul_ediv_add_emod a Q
  have l0 : 0 ≤ P * (a % Q) := Int.mul_nonneg (by omega) m0
  have l1 : P * (a % Q + 1) ≤ P * Q := Int.mul_le_mul_of_nonneg_left (by omega) (by omega)
  rw [Int.mul_add, Int.mul_one, h] at l1
  have e2 : a * P = 4294967296 * (a / Q) + P * (a % Q) := by
    rw [← h, Int.mul_assoc, ← Int.mul_add, e, Int.mul_comm]
  generalize P * (a % Q) = z at *
  generalize a / Q = w at *
  refine ⟨by omega, by omega, by omega, l0, by omega⟩
theorem shift_l0 (a : List Int) (ha : W a) (hla : a.length < 1099511627776) (s : Nat) (hs : s < 32) (m : Nat) : ∀ (o : List Int) (c : Int) (i : Nat), i + m = a.length → o.length = a.length + 1 → 0 ≤ c → c < 2 ^ s →
    Ev (fun k => nat_shift.l0 k a (s : Int) o c a (a.length : Int) (i : Int)) (o.take i ++ (carr 4294967296 (fun t => a.getD t 0 * 2 ^ s) m c i).1 ++ [(carr 4294967296 (fun t => a.getD t 0 * 2 ^ s) m c i).2]) := by
  induction m with
  | zero =>
    intro o c i h ho h0 h1
    have e := take_set_self o i c (by omega)
    rw [List.take_of_length_le (by rw [List.length_set]; omega)] at e
    refine Ev.step (f := fun _ => some (o.set i c)) (fun k => ?_) (by simp only [carr, List.append_nil]; rw [e]; exact Ev.now _)
    simp only [nat_shift.l0]
    rw [if_neg (by omega), if_pos (by omega), if_pos (by omega), Int.toNat_natCast, show a.length = i from by omega]
  | succ m ih =>
    intro o c i h ho h0 h1
    have wa := ha.getD i
    have hP := two_pos s
    have hQ := two_pos (32 - s)
    have hPQ := two_split s hs
    obtain ⟨f1, f2, f3, f4, f5⟩ := shl_step (a := a.getD i 0) hP hQ hPQ h0 h1
    have q0 : 0 ≤ a.getD i 0 / 2 ^ (32 - s) := Int.ediv_nonneg wa.1 (by omega)
    have q1 : a.getD i 0 / 2 ^ (32 - s) < 2 ^ s := div_lt hQ (by rw [hPQ]; omega)
    have q2 := two_le s 32 (by omega)
    have hor : Go.bits .or .u32 (shl .u32 (a.getD i 0) (s : Int)) c = (a.getD i 0 * 2 ^ s + c) % 4294967296 := by
      rw [f2]
      have e1 : shl .u32 (a.getD i 0) (s : Int) = 2 ^ s * (a.getD i 0 % 2 ^ (32 - s)) := by
        unfold shl
        rw [Int.toNat_natCast, show IntKind.bits .u32 = 32 from rfl, Nat.min_eq_left (by omega), IntKind.wrap_u32, f3]
      rw [e1]
      exact Go.bits_join .u32 32 (by decide) wraps_u32 s _ _ f4 (Int.mul_emod_right _ _) (by omega) h0 h1 (by omega)
    have hsh : (shr .u64 (IntKind.u64.wrap (a.getD i 0)) (wrap64 (32 - (s : Int)))) % 4294967296 = (a.getD i 0 * 2 ^ s + c) / 4294967296 := by
      rw [f1, u64_in wa.1 (by omega), wrap64_in (by omega) (by omega)]
      unfold shr
      rw [show (32 - (s : Int)).toNat = 32 - s from by omega, show IntKind.bits .u64 = 64 from rfl, Nat.min_eq_left (by omega)]
      exact Int.emod_eq_of_lt q0 (by omega)
    refine Ev.step (f := fun k => nat_shift.l0 k a (s : Int) (o.set i ((a.getD i 0 * 2 ^ s + c) % 4294967296)) ((a.getD i 0 * 2 ^ s + c) / 4294967296) a (a.length : Int) ((i + 1 : Nat) : Int)) (fun k => ?_) ?_
    · simp only [nat_shift.l0]
      rw [if_pos (by omega), if_pos (by omega), if_pos (by omega), if_pos (by omega), if_pos (by omega), rd_nat, hor, hsh, wrap64_in (n := 32 - (s : Int)) (by omega) (by omega), if_pos (by omega), wrap64_in (by omega) (by omega)]
      rfl
    · simp only [carr]
      have := ih (o.set i ((a.getD i 0 * 2 ^ s + c) % 4294967296)) ((a.getD i 0 * 2 ^ s + c) / 4294967296) (i + 1) (by omega) (by rw [List.length_set]; exact ho) (by omega) (by omega)
      rw [take_set_self o i _ (by omega)] at this
      simpa using this
theorem shift_ev (a : List Int) (ha : W a) (hla : a.length < 1099511627776) (s : Nat) (hs : s < 32) : ∃ r, Ev (fun k => nat_shift.f k a (s : Int)) r ∧ W r ∧ r.length = a.length + 1 ∧ val r = val a * 2 ^ s := by
  have h := shift_l0 a ha hla s hs a.length (List.replicate (a.length + 1) 0) 0 0 (by omega) (by simp) (by omega) (two_pos s)
  have hD := carr_D (B := 4294967296) (by decide) (fun t => a.getD t 0 * 2 ^ s) a.length 0 0
  have hC := carr_val 4294967296 (fun t => a.getD t 0 * 2 ^ s) a.length 0 0
  have hL := carr_len 4294967296 (fun t => a.getD t 0 * 2 ^ s) a.length 0 0
  have e0 : vs 4294967296 (fun t => a.getD t 0 * 2 ^ s) a.length 0 = val a * 2 ^ s := by
    have e1 : (fun t => a.getD t 0 * (2 : Int) ^ s) = fun t => 2 ^ s * a.getD t 0 := by funext t; exact Int.mul_comm _ _
    rw [e1, vs_mul, vs_list _ _ _ _ (by omega), List.drop_zero, vb_val, Int.mul_comm]
  rw [e0, vb_val] at hC
  generalize (carr 4294967296 (fun t => a.getD t 0 * 2 ^ s) a.length 0 0).1 = S at h hD hC hL
  generalize (carr 4294967296 (fun t => a.getD t 0 * 2 ^ s) a.length 0 0).2 = q at h hC
  have hS := W_D.2 hD
  have s0 := val_nonneg hS
  have s1 := val_lt hS
  rw [hL] at s1
  have a0 := val_nonneg ha
  have a1 := val_lt ha
  have p0 := pow_pos a.length
  have t0 := two_pos s
  have t1 := two_le s 31 (by omega)
  have m0 : 0 ≤ val a * 2 ^ s := Int.mul_nonneg a0 (by omega)
  have m1 : val a * 2 ^ s ≤ 4294967296 ^ a.length * 2 ^ s := Int.mul_le_mul_of_nonneg_right (by omega) (by omega)
  have m2 : (4294967296 : Int) ^ a.length * 2 ^ s ≤ 4294967296 ^ a.length * 2 ^ 31 := Int.mul_le_mul_of_nonneg_left t1 (by omega)
  have q0 : 0 ≤ q := by
    rcases Int.lt_or_le q 0 with c | c
    · have : (4294967296 : Int) ^ a.length * (q + 1) ≤ 0 := Int.mul_nonpos_of_nonneg_of_nonpos (by omega) (by omega)
      rw [Int.mul_add] at this
      omega
    · exact c
  have q1 : q < 4294967296 := by
    rcases Int.lt_or_le q 4294967296 with c | c
    · exact c
    · have : (4294967296 : Int) ^ a.length * 4294967296 ≤ 4294967296 ^ a.length * q := Int.mul_le_mul_of_nonneg_left c (by omega)
      omega
  refine ⟨S ++ [q], ?_, hS.append (W.cons q0 q1 W.nil), by simp [hL], ?_⟩
  · unfold nat_shift.f
    rw [wrap64_in (by omega) (by omega)]
    simp only [if_pos (show (0 : Int) ≤ (a.length : Int) + 1 by omega), show ((a.length : Int) + 1).toNat = a.length + 1 from by omega, if_pos (show a.length + 1 ≤ 70368744177664 by omega)]
    simpa using h
  · rw [val_append, hL]
    simp only [val, Int.mul_zero, Int.add_zero]
    omega
/-- The limbs, shifted to the right. -/
def us (P Q : Int) : List Int → List Int
  | [] => []
  | x :: t => (x / P + Q * (t.getD 0 0 % P)) :: us P Q t
theorem us_len (P Q : Int) : ∀ l, (us P Q l).length = l.length
  | [] => rfl
  | _ :: t => by simp [us, us_len P Q t]
theorem us_W {P Q : Int} (hP : 0 < P) (hQ : 0 < Q) (h : P * Q = 4294967296) : ∀ {l : List Int}, W l → W (us P Q l)
  | [], _ => W.nil
  | x :: t, hw => by
    have wx := hw.head
    have wt := (hw.tail).getD 0
    have m0 := Int.emod_nonneg (t.getD 0 0) (show P ≠ 0 by omega)
    have m1 := Int.emod_lt_of_pos (t.getD 0 0) hP
    have d0 : 0 ≤ x / P := Int.ediv_nonneg wx.1 (by omega)
    have d1 : x / P < Q := div_lt hP (by rw [Int.mul_comm]; omega)
    have l0 : 0 ≤ Q * (t.getD 0 0 % P) := Int.mul_nonneg (by omega) m0
    have l1 : Q * (t.getD 0 0 % P + 1) ≤ Q * P := Int.mul_le_mul_of_nonneg_left (by omega) (by omega)
    rw [Int.mul_add, Int.mul_one, Int.mul_comm Q P, h] at l1
    exact W.cons (by omega) (by omega) (us_W hP hQ h hw.tail)
theorem us_val {P Q : Int} (h : P * Q = 4294967296) : ∀ l : List Int, val (us P Q l) * P + l.getD 0 0 % P = val l
  | [] => by simp [us, val]
  | x :: t => by
    have ih := us_val h t
    have e := Int.mul_ediv_add_emod x P
    simp only [us, val, List.getD_cons_zero]
    have k1 : (x / P + Q * (t.getD 0 0 % P) + 4294967296 * val (us P Q t)) * P = P * (x / P) + 4294967296 * (t.getD 0 0 % P) + 4294967296 * (val (us P Q t) * P) := by
      rw [Int.add_mul, Int.add_mul, Int.mul_comm (x / P), Int.mul_comm Q, Int.mul_assoc, Int.mul_comm Q P, h, Int.mul_comm (t.getD 0 0 % P), Int.mul_assoc]
    rw [k1, ← ih]
    omega
theorem us_drop (P Q : Int) (l : List Int) : ∀ i, i < l.length → us P Q (l.drop i) = (l.getD i 0 / P + Q * (l.getD (i + 1) 0 % P)) :: us P Q (l.drop (i + 1)) := by
  intro i hi
  rw [drop_cons l i hi]
  simp only [us]
  congr 3
  simp [List.getD, List.getElem?_drop]
theorem unshift_l0 (a : List Int) (ha : W a) (hla : a.length < 1099511627776) (s : Nat) (hs : s < 32) (m : Nat) : ∀ (o : List Int) (i : Nat), i + m = a.length → o.length = a.length →
    Ev (fun k => nat_unshift.l0 k a (s : Int) o a (a.length : Int) (i : Int)) (o.take i ++ us (2 ^ s) (2 ^ (32 - s)) (a.drop i)) := by
  induction m with
  | zero =>
    intro o i h ho
    rw [List.drop_eq_nil_of_le (by omega), List.take_of_length_le (by omega)]
    refine Ev.step (f := fun _ => some o) (fun k => ?_) (by simp only [us, List.append_nil]; exact Ev.now _)
    simp only [nat_unshift.l0]
    rw [if_neg (by omega)]
  | succ m ih =>
    intro o i h ho
    have wa := ha.getD i
    have wb := ha.getD (i + 1)
    have hP := two_pos s
    have hQ := two_pos (32 - s)
    have hPQ := two_split s hs
    have hQP : (2 : Int) ^ (32 - s) * 2 ^ s = 4294967296 := by rw [Int.mul_comm]; exact hPQ
    obtain ⟨f1, f2, f3, f4, f5⟩ := shl_step (a := a.getD (i + 1) 0) (c := 0) hQ hP hQP (by omega) (by omega)
    have d0 : 0 ≤ a.getD i 0 / 2 ^ s := Int.ediv_nonneg wa.1 (by omega)
    have d1 : a.getD i 0 / 2 ^ s < 2 ^ (32 - s) := div_lt hP (by rw [hQP]; omega)
    have b0 : 0 ≤ a.getD (i + 1) 0 * 2 ^ (32 - s) := Int.mul_nonneg wb.1 (by omega)
    have q2 := two_le (32 - s) 32 (by omega)
    have b1 : a.getD (i + 1) 0 * 2 ^ (32 - s) ≤ 4294967295 * 2 ^ (32 - s) := Int.mul_le_mul_of_nonneg_right (by omega) (by omega)
    have hor : Go.bits .or .u32 (shr .u32 (a.getD i 0) (s : Int)) ((shl .u64 (a.getD (i + 1) 0) (wrap64 (32 - (s : Int)))) % 4294967296) = a.getD i 0 / 2 ^ s + 2 ^ (32 - s) * (a.getD (i + 1) 0 % 2 ^ s) := by
      have e1 : shl .u64 (a.getD (i + 1) 0) (wrap64 (32 - (s : Int))) % 4294967296 = 2 ^ (32 - s) * (a.getD (i + 1) 0 % 2 ^ s) := by
        rw [wrap64_in (by omega) (by omega)]
        unfold shl
        rw [show (32 - (s : Int)).toNat = 32 - s from by omega, show IntKind.bits .u64 = 64 from rfl, Nat.min_eq_left (by omega), u64_in b0 (by omega), f3]
      have e2 : shr .u32 (a.getD i 0) (s : Int) = a.getD i 0 / 2 ^ s := by
        unfold shr
        rw [Int.toNat_natCast, show IntKind.bits .u32 = 32 from rfl, Nat.min_eq_left (by omega)]
      rw [e1, e2, bits_comm, Go.bits_join .u32 32 (by decide) wraps_u32 (32 - s) _ _ f4 (Int.mul_emod_right _ _) (by omega) d0 d1 (by omega), Int.add_comm]
    refine Ev.step (f := fun k => nat_unshift.l0 k a (s : Int) (o.set i (a.getD i 0 / 2 ^ s + 2 ^ (32 - s) * (a.getD (i + 1) 0 % 2 ^ s))) a (a.length : Int) ((i + 1 : Nat) : Int)) (fun k => ?_) ?_
    · simp only [nat_unshift.l0]
      rw [if_pos (by omega), if_pos (by omega), if_pos (by omega), if_pos (by omega), wrap64_in (n := (i : Int) + 1) (by omega) (by omega), show (i : Int) + 1 = ((i + 1 : Nat) : Int) from by omega, at_eq a ha (i + 1), Option.bind_some, rd_nat, hor, wrap64_in (n := 32 - (s : Int)) (by omega) (by omega), if_pos (by omega), if_pos (by omega)]
      rfl
    · have := ih (o.set i (a.getD i 0 / 2 ^ s + 2 ^ (32 - s) * (a.getD (i + 1) 0 % 2 ^ s))) (i + 1) (by omega) (by rw [List.length_set]; exact ho)
      rw [take_set_self o i _ (by omega)] at this
      rw [us_drop _ _ a i (by omega)]
      simpa using this
theorem unshift_ev (a : List Int) (ha : W a) (hla : a.length < 1099511627776) (s : Nat) (hs : s < 32) : ∃ r, Ev (fun k => nat_unshift.f k a (s : Int)) r ∧ W r ∧ r.length = a.length ∧ val r = val a / 2 ^ s := by
  refine ⟨us (2 ^ s) (2 ^ (32 - s)) a, ?_, us_W (two_pos _) (two_pos _) (two_split s hs) ha, us_len _ _ _, ?_⟩
  · unfold nat_unshift.f
    simp only [if_pos (show (0 : Int) ≤ (a.length : Int) by omega), Int.toNat_natCast, if_pos (show a.length ≤ 70368744177664 by omega)]
    simpa using unshift_l0 a ha hla s hs a.length (List.replicate a.length 0) 0 (by omega) (by simp)
  · have h := us_val (two_split s hs) a
    have t0 := two_pos s
    have m0 := Int.emod_nonneg (a.getD 0 0) (show (2 : Int) ^ s ≠ 0 by omega)
    have m1 := Int.emod_lt_of_pos (a.getD 0 0) t0
    rw [← h, Int.add_comm, Int.add_mul_ediv_right _ _ (by omega), Int.ediv_eq_zero_of_lt m0 m1, Int.zero_add]
end Go.Proofs.YtdgbeejhccogpaaDoor.F
