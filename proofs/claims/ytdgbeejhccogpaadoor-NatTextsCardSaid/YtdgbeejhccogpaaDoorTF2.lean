/- What the printed functions of layer nat tell, in numbers: sums, differences, products, and the calls over them. No condition beyond the lists' lengths. -/
import Derived.Test.YtdgbeejhccogpaaDoorTC
import Derived.Test.YtdgbeejhccogpaaDoorTF1
namespace Go.Proofs.YtdgbeejhccogpaaDoor.F
set_option linter.unusedSimpArgs false
set_option linter.unusedVariables false
open Go.RowKit Go.Proofs.YtdgbeejhccogpaaDoor.T Go.Proofs.YtdgbeejhccogpaaDoorW.PrintWords Go.Proofs.YtdgbeejhccogpaaDoorW.PrintLast Go.Proofs.YtdgbeejhccogpaaDoorW.PrintMore Go.Proofs.YtdgbeejhccogpaaDoor.M

theorem at_eq (l : List Int) (hw : W l) (i : Nat) : nat_at.f l (i : Int) = some (l.getD i 0) := by
  have h := hw.getD i
  unfold nat_at.f
  by_cases c : i < l.length
  · rw [if_pos (by omega), if_pos (by omega), rd_nat, u64_in (by omega) (by omega)]
  · rw [if_neg (by omega), getD_end _ _ (by omega)]

/-! ### Same -/
theorem same_l0 (a b : List Int) (hl : a.length = b.length) (hm : a.length < 9223372036854775807) (m : Nat) : ∀ i, i + m = a.length →
    Ev (fun k => samphireref02_Same.l0 k a b (i : Int)) (decide (a.drop i = b.drop i)) := by
  induction m with
  | zero =>
    intro i h
    refine Ev.step (f := fun _ => some true) (fun k => ?_) ?_
    · simp only [samphireref02_Same.l0]; rw [if_neg (by omega)]
    · rw [List.drop_of_length_le (by omega), List.drop_of_length_le (by omega)]
      exact Ev.now _
  | succ m ih =>
    intro i h
    have da := drop_cons a i (by omega)
    have db := drop_cons b i (by omega)
    by_cases c : rd a i = rd b i
    · refine Ev.step (f := fun k => samphireref02_Same.l0 k a b ((i + 1 : Nat) : Int)) (fun k => ?_) ?_
      · simp only [samphireref02_Same.l0]
        rw [if_pos (by omega), if_pos (by omega), if_pos (by omega), if_pos c, wrap64_in (by omega) (by omega)]
        rfl
      · have := ih (i + 1) (by omega)
        rw [rd_nat, rd_nat] at c
        rw [da, db, c]
        simpa using this
    · refine Ev.step (f := fun _ => some false) (fun k => ?_) ?_
      · simp only [samphireref02_Same.l0]
        rw [if_pos (by omega), if_pos (by omega), if_pos (by omega), if_neg c]
      · rw [rd_nat, rd_nat] at c
        rw [da, db, decide_eq_false (by intro e; injection e with e1 e2; exact c e1)]
        exact Ev.now _
theorem same_ev (a b : List Int) (hm : a.length < 9223372036854775807) : Ev (fun k => samphireref02_Same.f k a b) (decide (a = b)) := by
  unfold samphireref02_Same.f
  by_cases hl : a.length = b.length
  · have := same_l0 a b hl hm a.length 0 (by omega)
    simp only [List.drop_zero] at this
    refine Ev.congr (f := fun k => samphireref02_Same.l0 k a b 0) (fun k => ?_) this
    rw [if_pos (by omega)]
  · refine Ev.congr (f := fun _ => some (decide (a = b))) (fun k => ?_) (Ev.now _)
    rw [if_neg (by omega), decide_eq_false (fun e => hl (by rw [e]))]
theorem same_lim (x y : Nat) (hx : (lim x).length < 9223372036854775807) : Ev (fun k => samphireref02_Same.f k (lim x) (lim y)) (decide (x = y)) := by
  have := same_ev (lim x) (lim y) hx
  rw [show decide (lim x = lim y) = decide (x = y) from ?_] at this
  · exact this
  · by_cases c : x = y
    · subst c; simp
    · rw [decide_eq_false (fun e => c (lim_inj e)), decide_eq_false c]

/-! ### sum -/
theorem sum_l0 (a b : List Int) (ha : W a) (hb : W b) (n : Nat) (hn : n < 4611686018427387904) (m : Nat) : ∀ (o : List Int) (c : Int) (i : Nat), i + m = n → o.length = n → 0 ≤ c → c ≤ 1 →
    Ev (fun k => nat_sum.l0 k a b o c (n : Int) (i : Int)) (trimL (o.take i ++ (carr 4294967296 (fun t => a.getD t 0 + b.getD t 0) m c i).1)) := by
  induction m with
  | zero =>
    intro o c i h ho h0 h1
    refine Ev.step (f := fun k => (nat_trim.f k o).bind fun t => some t) (fun k => ?_) ?_
    · simp only [nat_sum.l0]; rw [if_neg (by omega)]
    · refine Ev.bind (a := trimL o) (trim_ev o (by omega)) ?_
      rw [show o.take i ++ (carr 4294967296 (fun t => a.getD t 0 + b.getD t 0) 0 c i).1 = o from by simp [carr, List.take_of_length_le (show o.length ≤ i by omega)]]
      exact Ev.now _
  | succ m ih =>
    intro o c i h ho h0 h1
    have wa := ha.getD i
    have wb := hb.getD i
    refine Ev.step (f := fun k => nat_sum.l0 k a b (o.set i ((a.getD i 0 + b.getD i 0 + c) % 4294967296)) ((a.getD i 0 + b.getD i 0 + c) / 4294967296) (n : Int) ((i + 1 : Nat) : Int)) (fun k => ?_) ?_
    · simp only [nat_sum.l0]
      rw [if_pos (by omega), at_eq a ha, at_eq b hb]
      simp only [Option.bind_some]
      rw [if_pos (by omega), if_pos (by omega), u64_in (n := a.getD i 0 + b.getD i 0) (by omega) (by omega), u64_in (by omega) (by omega), wrap64_in (by omega) (by omega), Int.toNat_natCast, show c + (a.getD i 0 + b.getD i 0) = a.getD i 0 + b.getD i 0 + c from by omega]
      rfl
    · have := ih (o.set i ((a.getD i 0 + b.getD i 0 + c) % 4294967296)) ((a.getD i 0 + b.getD i 0 + c) / 4294967296) (i + 1) (by omega) (by simpa using ho) (by omega) (by omega)
      rw [take_set_self _ _ _ (by omega), List.append_assoc] at this
      exact this
theorem sum_ev (x y : Nat) (hx : (lim x).length < 1099511627776) (hy : (lim y).length < 1099511627776) : Ev (fun k => nat_sum.f k (lim x) (lim y)) (lim (x + y)) := by
  have hwx := W_lim x
  have hwy := W_lim y
  obtain ⟨n, hn⟩ : ∃ n : Nat, n = max (lim x).length (lim y).length := ⟨_, rfl⟩
  have e1 : mx ((lim x).length : Int) ((lim y).length : Int) = (n : Int) := by unfold mx; split <;> omega
  have e2 : wrap64 ((n : Int) + 1) = ((n + 1 : Nat) : Int) := by rw [wrap64_in (by omega) (by omega)]; omega
  refine Ev.congr (f := fun k => nat_sum.l0 k (lim x) (lim y) (List.replicate (n + 1) 0) 0 ((n + 1 : Nat) : Int) ((0 : Nat) : Int)) (fun k => ?_) ?_
  · unfold nat_sum.f
    rw [e1, e2, if_pos (by omega), if_pos (by omega)]
    simp only [Option.bind_some, Int.toNat_natCast, List.length_replicate]
    rfl
  · have h := sum_l0 (lim x) (lim y) hwx hwy (n + 1) (by omega) (n + 1) (List.replicate (n + 1) 0) 0 0 (by omega) (by simp) (by omega) (by omega)
    rw [List.take_zero, List.nil_append] at h
    have hD := carr_D (B := 4294967296) (by decide) (fun t => (lim x).getD t 0 + (lim y).getD t 0) (n + 1) 0 0
    have hv := carr_val 4294967296 (fun t => (lim x).getD t 0 + (lim y).getD t 0) (n + 1) 0 0
    have hL := carr_len 4294967296 (fun t => (lim x).getD t 0 + (lim y).getD t 0) (n + 1) 0 0
    rw [vs_add, vs_list _ _ _ _ (by omega), vs_list _ _ _ _ (by omega), List.drop_zero, List.drop_zero, vb_val, vb_val, vb_val, val_lim, val_lim] at hv
    have lx := len_le.1 (show (lim x).length ≤ n by omega)
    have ly := len_le.1 (show (lim y).length ≤ n by omega)
    have lxz : (x : Int) < 4294967296 ^ n := lt_pow lx
    have lyz : (y : Int) < 4294967296 ^ n := lt_pow ly
    have v0 := val_nonneg (W_D.2 hD)
    have v1 := val_lt (W_D.2 hD)
    rw [hL] at v1
    rw [trimL_lim (W_D.2 hD)] at h
    generalize hc : (carr 4294967296 (fun t => (lim x).getD t 0 + (lim y).getD t 0) (n + 1) 0 0).1 = r at *
    generalize hd : (carr 4294967296 (fun t => (lim x).getD t 0 + (lim y).getD t 0) (n + 1) 0 0).2 = q at *
    have hq : q = 0 := by
      have hp := pow_succ n
      have hp0 := pow_pos n
      have hp1 := pow_pos (n + 1)
      rcases Int.lt_trichotomy q 0 with c | c | c
      · have : (4294967296 : Int) ^ (n + 1) * (q + 1) ≤ 0 := Int.mul_nonpos_of_nonneg_of_nonpos (by omega) (by omega)
        rw [Int.mul_add] at this
        omega
      · exact c
      · have : (4294967296 : Int) ^ (n + 1) * 1 ≤ 4294967296 ^ (n + 1) * q := Int.mul_le_mul_of_nonneg_left (by omega) (by omega)
        omega
    subst hq
    rw [show (val r).toNat = x + y from by omega] at h
    exact h

/-! ### less -/
theorem less_l0 (a b : List Int) (ha : W a) (hb : W b) (n : Nat) (hn : n = a.length) (hm : n < 4611686018427387904) (m : Nat) : ∀ (o : List Int) (c : Int) (i : Nat), i + m = n → o.length = n → 0 ≤ c → c ≤ 1 →
    Ev (fun k => nat_less.l0 k a b o c (n : Int) (i : Int)) (trimL (o.take i ++ (carr 4294967296 (fun t => a.getD t 0 - b.getD t 0) m (-c) i).1)) := by
  induction m with
  | zero =>
    intro o c i h ho h0 h1
    refine Ev.step (f := fun k => (nat_trim.f k o).bind fun t => some t) (fun k => ?_) ?_
    · simp only [nat_less.l0]; rw [if_neg (by omega)]
    · refine Ev.bind (a := trimL o) (trim_ev o (by omega)) ?_
      rw [show o.take i ++ (carr 4294967296 (fun t => a.getD t 0 - b.getD t 0) 0 (-c) i).1 = o from by simp [carr, List.take_of_length_le (show o.length ≤ i by omega)]]
      exact Ev.now _
  | succ m ih =>
    intro o c i h ho h0 h1
    have wa := ha.getD i
    have wb := hb.getD i
    obtain ⟨p, hp⟩ : ∃ p, p = a.getD i 0 := ⟨_, rfl⟩
    obtain ⟨q, hq⟩ : ∃ q, q = b.getD i 0 := ⟨_, rfl⟩
    rw [← hp] at wa
    rw [← hq] at wb
    obtain ⟨u, hu⟩ : ∃ u, u = IntKind.u64.wrap (IntKind.u64.wrap (p - q) - c) := ⟨_, rfl⟩
    have hu' : u = (p - q - c) % 18446744073709551616 := by rw [hu, IntKind.wrap_u64, IntKind.wrap_u64]; omega
    refine Ev.step (f := fun k => nat_less.l0 k a b (o.set i ((p - q + -c) % 4294967296)) (-((p - q + -c) / 4294967296)) (n : Int) ((i + 1 : Nat) : Int)) (fun k => ?_) ?_
    · simp only [nat_less.l0]
      rw [if_pos (by omega), if_pos (by omega), if_pos (by omega), at_eq b hb, rd_nat, ← hp, ← hq]
      simp only [Option.bind_some]
      rw [if_pos (by omega), u64_in (n := p) (by omega) (by omega), ← hu, Int.toNat_natCast, wrap64_in (by omega) (by omega), show u % 4294967296 = (p - q + -c) % 4294967296 from by omega, show u / 9223372036854775808 = -((p - q + -c) / 4294967296) from by omega]
      rfl
    · have := ih (o.set i ((p - q + -c) % 4294967296)) (-((p - q + -c) / 4294967296)) (i + 1) (by omega) (by simpa using ho) (by omega) (by omega)
      rw [take_set_self _ _ _ (by omega), List.append_assoc, Int.neg_neg] at this
      rw [hp, hq] at this
      rw [hp, hq]
      exact this
theorem less_ev (x y : Nat) (hx : (lim x).length < 1099511627776) (hxy : y ≤ x) : Ev (fun k => nat_less.f k (lim x) (lim y)) (lim (x - y)) := by
  have hwx := W_lim x
  have hwy := W_lim y
  have hly := len_mono hxy
  obtain ⟨n, hn⟩ : ∃ n : Nat, n = (lim x).length := ⟨_, rfl⟩
  refine Ev.congr (f := fun k => nat_less.l0 k (lim x) (lim y) (List.replicate n 0) 0 (n : Int) ((0 : Nat) : Int)) (fun k => ?_) ?_
  · unfold nat_less.f
    rw [← hn, if_pos (by omega), if_pos (by omega)]
    simp only [Option.bind_some, Int.toNat_natCast, List.length_replicate]
    rfl
  · have h := less_l0 (lim x) (lim y) hwx hwy n hn (by omega) n (List.replicate n 0) 0 0 (by omega) (by simp) (by omega) (by omega)
    rw [List.take_zero, List.nil_append] at h
    have hD := carr_D (B := 4294967296) (by decide) (fun t => (lim x).getD t 0 - (lim y).getD t 0) n (-0) 0
    have hv := carr_val 4294967296 (fun t => (lim x).getD t 0 - (lim y).getD t 0) n (-0) 0
    have hL := carr_len 4294967296 (fun t => (lim x).getD t 0 - (lim y).getD t 0) n (-0) 0
    rw [vs_sub, vs_list _ _ _ _ (by omega), vs_list _ _ _ _ (by omega), List.drop_zero, List.drop_zero, vb_val, vb_val, vb_val, val_lim, val_lim] at hv
    have lx := len_le.1 (show (lim x).length ≤ n by omega)
    have lxz : (x : Int) < 4294967296 ^ n := lt_pow lx
    have v0 := val_nonneg (W_D.2 hD)
    have v1 := val_lt (W_D.2 hD)
    rw [hL] at v1
    rw [trimL_lim (W_D.2 hD)] at h
    generalize hc : (carr 4294967296 (fun t => (lim x).getD t 0 - (lim y).getD t 0) n (-0) 0).1 = r at *
    generalize hd : (carr 4294967296 (fun t => (lim x).getD t 0 - (lim y).getD t 0) n (-0) 0).2 = q at *
    have hq : q = 0 := by
      have hp0 := pow_pos n
      rcases Int.lt_trichotomy q 0 with c | c | c
      · have : (4294967296 : Int) ^ n * (q + 1) ≤ 0 := Int.mul_nonpos_of_nonneg_of_nonpos (by omega) (by omega)
        rw [Int.mul_add] at this
        omega
      · exact c
      · have : (4294967296 : Int) ^ n * 1 ≤ 4294967296 ^ n * q := Int.mul_le_mul_of_nonneg_left (by omega) (by omega)
        omega
    subst hq
    rw [show (val r).toNat = x - y from by omega] at h
    exact h
end Go.Proofs.YtdgbeejhccogpaaDoor.F
