/- Division: by many limbs; Div and Gcd. No condition beyond the lists' lengths. -/
import Derived.Test.YtdgbeejhccogpaaDoorTD5
namespace Go.Proofs.YtdgbeejhccogpaaDoor.F
set_option linter.unusedSimpArgs false
set_option linter.unusedVariables false
open Go.RowKit Go.Proofs.YtdgbeejhccogpaaDoor.T Go.Proofs.YtdgbeejhccogpaaDoorW.PrintWords Go.Proofs.YtdgbeejhccogpaaDoorW.PrintLast Go.Proofs.YtdgbeejhccogpaaDoorW.PrintMore Go.Proofs.YtdgbeejhccogpaaDoor.M

/-- Not by rfl alone: the kernel must not compare the two sides as programs. -/
theorem ob {α β : Type} (a : α) (f : α → Option β) : (some a).bind f = f a := Eq.trans (Eq.refl _) (Eq.symm (Eq.refl _))
theorem keep_num {P V A T X R Q w : Int} (hA : A = T + P * X + V * (P * 4294967296 * w)) (hX : V * Q + R = X) : A = T + P * R + V * (P * (Q + 4294967296 * w)) := by
  rw [hA, ← hX, Int.mul_add, Int.mul_add, Int.mul_add, ← Int.mul_assoc P V Q, Int.mul_comm P V, Int.mul_assoc V P Q, Int.mul_assoc P 4294967296 w]
  omega
theorem long_l0 (b : List Int) (hb : W b) (n K s : Nat) (hs : s < 32) (hn : b.length = n) (h2 : 2 ≤ n) (hK : K + n < 1099511627776) (hV : 2147483648 ≤ b.getD (n - 1) 0) (A : Int) (k1 : Nat) :
    ∀ (x o : List Int), k1 ≤ K → W x → x.length = K + n → W o → o.length = K → A = val x + val b * (4294967296 ^ k1 * val (o.drop k1)) → val (x.drop k1) < val b →
    Ev (fun f => nat_long.l0 f (s : Int) x b o ((k1 : Int) - 1)) (lim (A / val b).toNat, lim (A % val b / 2 ^ s).toNat) := by
  induction k1 with
  | zero =>
    intro x o hk wx lx wo lo hA hX
    rw [List.drop_zero, Int.pow_zero, Int.one_mul] at hA
    rw [List.drop_zero] at hX
    have x0 := val_nonneg wx
    have e1 : A / val b = val o := by rw [hA, Int.add_mul_ediv_left _ _ (by omega), Int.ediv_eq_zero_of_lt x0 hX, Int.zero_add]
    have e2 : A % val b = val x := by rw [hA, Int.add_mul_emod_self_left, Int.emod_eq_of_lt x0 hX]
    rw [e1, e2]
    obtain ⟨r, er, wr, lr, vr⟩ := unshift_ev x wx (by omega) s hs
    rw [← vr]
    refine Ev.step (f := fun f => (nat_trim.f f o).bind fun t178 => ((nat_unshift.f f x (s : Int)).bind fun t181 => ((nat_trim.f f t181).bind fun t184 => (some (t178, t184))))) (fun f => ?_) ?_
    · rw [nat_long.l0.eq_2, if_neg (by omega)]
    · refine Ev.bind (trim_lim (n := (val o).toNat) (by omega) wo (by have := val_nonneg wo; omega)) ?_
      refine Ev.bind er ?_
      refine Ev.bind (trim_lim (n := (val r).toNat) (by omega) wr (by have := val_nonneg wr; omega)) ?_
      exact Ev.now _
  | succ k ih =>
    intro x o hk wx lx wo lo hA hX
    obtain ⟨Q, G, fl, x1, hQ, q0, q1, eG, eT, c1, c2⟩ := long_step x b wx hb k n hn h2 (by omega) (by omega) hV hX
    have hVp : 0 < val b := by have := val_nonneg (wx.drop (k + 1)); omega
    have R1 := Int.emod_lt_of_pos (val (x.drop k)) hVp
    have RE := Int.mul_ediv_add_emod (val (x.drop k)) (val b)
    rw [← hQ] at RE
    have hko : k < o.length := by omega
    have tl : ∀ x2, Good x x2 k (val (x.drop k) % val b) → Ev (fun f => nat_long.l0 f (s : Int) x2 b (o.set k Q) ((k : Int) - 1)) (lim (A / val b).toNat, lim (A % val b / 2 ^ s).toNat) := by
      intro x2 g
      obtain ⟨w2, l2, t2, v2⟩ := g
      refine ih x2 (o.set k Q) (by omega) w2 (by omega) (wo.set k q0 (by omega)) (by rw [List.length_set]; exact lo) ?_ (by rw [v2]; exact R1)
      have s1 := val_split x k (by omega)
      have s2 := val_split x2 k (by omega)
      have s3 := val_cons' (o.set k Q) k (by rw [List.length_set]; exact hko)
      rw [M.getD_set_eq _ _ _ hko, List.drop_set_of_lt (show k < k + 1 by omega)] at s3
      rw [s2, t2, v2, s3]
      refine keep_num (X := val (x.drop k)) ?_ RE
      rw [hA, s1, pow_succ, Int.mul_comm 4294967296 (4294967296 ^ k)]
    have p0 : ((k + 1 : Nat) : Int) - 1 = (k : Int) := by omega
    have p1 : (k : Int) ≥ 0 := by omega
    have p2 : (k : Int) < (o.length : Int) := n_lt hko
    have p3 : wrap64 ((k : Int) - 1) = (k : Int) - 1 := wrap64_in (by omega) (by omega)
    have p4 : IntKind.u64.wrap (Q + 1 - 1) % 4294967296 = Q := by rw [u64_in (by omega) (by omega)]; omega
    have p5 : Q % 4294967296 = Q := by omega
    have p6 : (0 : Int) ≤ (k : Int) := p1
    rw [p0]
    refine Ev.step (fun f => nat_long.l0.eq_2 _ _ _ _ _ f) ?_
    simp only [if_pos p1]
    refine Ev.bind eG ?_
    refine Ev.bind eT ?_
    cases fl with
    | false =>
      obtain ⟨e, g⟩ := c1 rfl
      subst e
      simp only [Bool.false_eq_true, if_false, if_pos p6, if_pos p2, p3, p5, Int.toNat_natCast]
      exact tl x1 g
    | true =>
      obtain ⟨e, x2, eg, g⟩ := c2 rfl
      simp only [if_true]
      refine Ev.bind eg ?_
      simp only [e, if_pos p6, if_pos p2, p3, p4, Int.toNat_natCast]
      exact tl x2 g
theorem two_cast (s : Nat) : ((2 ^ s : Nat) : Int) = 2 ^ s := by rw [Int.natCast_pow]; rfl
theorem lz_eq (t : Nat) (h0 : t ≠ 0) (h : t < 4294967296) : ∃ s : Nat, s < 32 ∧ bits_LeadingZeros32.f (t : Int) = some (s : Int) ∧ 2147483648 ≤ t * 2 ^ s ∧ t * 2 ^ s < 4294967296 := by
  have b1 := bl_lt t
  have b2 := bl_low h0
  have b3 : bl t ≤ 32 := bl_le (by omega)
  have b4 : 0 < bl t := by rw [bl_pos h0]; omega
  refine ⟨32 - bl t, by omega, ?_, ?_, ?_⟩
  · have e : bits_Len32.f (t : Int) = some ((bl t : Nat) : Int) := by
      unfold bits_Len32.f
      rw [if_pos ⟨by omega, by omega⟩, Int.toNat_natCast, bitLen_bl (by omega)]
    unfold bits_LeadingZeros32.f
    rw [e, Option.bind_some, wrap64_in (by omega) (by omega)]
    congr 1
    omega
  · have := Nat.mul_le_mul_right (2 ^ (32 - bl t)) b2
    rw [← Nat.pow_add, show bl t - 1 + (32 - bl t) = 31 from by omega] at this
    exact this
  · have := Nat.mul_lt_mul_of_pos_right b1 (Nat.two_pow_pos (32 - bl t))
    rw [← Nat.pow_add, show bl t + (32 - bl t) = 32 from by omega] at this
    exact this
theorem long_idx {lx ly n K lb : Nat} (hn : ly = n) (h2 : 2 ≤ n) (hK : lx + 1 = K + n) (hx : lx < 1073741824) (hm : ly ≤ lx) (hb : lb = n + 1) :
    wrap64 ((ly : Int) - 1) = ((n - 1 : Nat) : Int) ∧ wrap64 (wrap64 ((lx : Int) - (ly : Int)) + 1) = (K : Int) ∧ wrap64 ((K : Int) - 1) = (K : Int) - 1 ∧ ((n - 1 : Nat) : Int) < (ly : Int) ∧ K ≤ 70368744177664 ∧ (ly : Int) ≤ (lb : Int) ∧ K + n < 1099511627776 := by
  refine ⟨?_, ?_, wrap64_in (by omega) (by omega), by omega, by omega, by omega, by omega⟩
  · rw [hn]; exact w_pred (by omega) (by omega)
  · rw [wrap64_in (n := (lx : Int) - (ly : Int)) (by omega) (by omega), wrap64_in (by omega) (by omega)]
    omega
theorem long_f (a b a' b' : List Int) (t s n K : Nat) (hn : b.length = n) (h2 : 2 ≤ n) (hK : a.length + 1 = K + n) (hx : a.length < 1073741824) (hm : b.length ≤ a.length) (lb : b'.length = n + 1)
    (ht : b.getD (n - 1) 0 = (t : Int)) (es : bits_LeadingZeros32.f (t : Int) = some (s : Int)) (ea : Ev (fun f => nat_shift.f f a (s : Int)) a') (eb : Ev (fun f => nat_shift.f f b (s : Int)) b') (R : List Int × List Int)
    (L : Ev (fun f => nat_long.l0 f (s : Int) a' (b'.take n) (List.replicate K 0) ((K : Int) - 1)) R) : Ev (fun f => nat_long.f f a b) R := by
  obtain ⟨i0, i1, i2, p1, p5, p3, _⟩ := long_idx hn h2 hK hx hm lb
  have p0 := n_nn (n - 1)
  have p2 := n_nn b.length
  have p4 := n_nn K
  unfold nat_long.f
  rw [i0, i1, rd_nat, ht, es]
  simp only [if_pos p0, if_pos p1, ob]
  refine Ev.bind ea ?_
  refine Ev.bind eb ?_
  have tn : ((b.length : Nat) : Int).toNat = n := by rw [Int.toNat_natCast]; exact hn
  have tk : ((K : Nat) : Int).toNat = K := Int.toNat_natCast K
  have i3 : wrap64 (((List.replicate K (0 : Int)).length : Int) - 1) = (K : Int) - 1 := by rw [List.length_replicate]; exact i2
  refine Eq.mp (congrArg (fun g => Ev g R) (funext fun f => Eq.symm ?_)) L
  rw [if_pos p2, if_pos p3, if_pos p4, tn, tk, if_pos p5]
  exact congrArg _ i3
theorem long_ev (x y : Nat) (hxy : y ≤ x) (n : Nat) (hn : (lim y).length = n) (h2 : 2 ≤ n) (hx : (lim x).length < 1073741824) : Ev (fun f => nat_long.f f (lim x) (lim y)) (lim (x / y), lim (x % y)) := by
  have hm := len_mono hxy
  have wy := W_lim y
  have wt := wy.getD (n - 1)
  have nz := last_ne (lim_can y) (by omega)
  rw [hn] at nz
  obtain ⟨t, ht⟩ : ∃ t : Nat, (lim y).getD (n - 1) 0 = (t : Int) := ⟨_, (Int.toNat_of_nonneg wt.1).symm⟩
  rw [ht] at wt nz
  obtain ⟨s, hs, es, t0, t1⟩ := lz_eq t (by omega) (by omega)
  have sv := val_split (lim y) (n - 1) (by omega)
  have sc := val_cons' (lim y) (n - 1) (by omega)
  rw [List.drop_eq_nil_of_le (show (lim y).length ≤ n - 1 + 1 by omega), ht] at sc
  simp only [val, Int.mul_zero, Int.add_zero] at sc
  rw [sc, val_lim] at sv
  have c0 := val_nonneg (wy.take (n - 1))
  have c1 := val_lt (wy.take (n - 1))
  rw [List.length_take, Nat.min_eq_left (by omega)] at c1
  obtain ⟨a', ea, wa, la, va⟩ := shift_ev (lim x) (W_lim x) (by omega) s hs
  obtain ⟨b', eb, wb, lb, vb'⟩ := shift_ev (lim y) wy (by omega) s hs
  rw [val_lim] at va vb'
  rw [hn] at lb
  have hP := two_pos s
  have t0' : (2147483648 : Int) ≤ t * 2 ^ s := by
    have h := Int.ofNat_le.2 t0
    rw [Int.natCast_mul, two_cast] at h
    omega
  have t1' : (t : Int) * 2 ^ s + 2 ^ s ≤ 4294967296 := by
    have d1 : (t + 1) * 2 ^ s ≤ 4294967296 := by
      have e32 : 2 ^ s * 2 ^ (32 - s) = 4294967296 := by rw [← Nat.pow_add, show s + (32 - s) = 32 from by omega]
      have : t < 2 ^ (32 - s) := by
        rw [← e32, Nat.mul_comm t] at t1
        exact Nat.lt_of_mul_lt_mul_left t1
      calc (t + 1) * 2 ^ s ≤ 2 ^ (32 - s) * 2 ^ s := Nat.mul_le_mul_right _ this
        _ = 4294967296 := by rw [Nat.mul_comm]; exact e32
    rw [Nat.add_mul, Nat.one_mul] at d1
    have h := Int.ofNat_le.2 d1
    rw [Int.natCast_add, Int.natCast_mul, two_cast] at h
    omega
  -- y * 2^s lies within n limbs, with a great one at the end
  obtain ⟨P, hPn⟩ : ∃ P : Int, P = 4294967296 ^ (n - 1) := ⟨_, rfl⟩
  have hPp : 0 < P := by rw [hPn]; exact pow_pos _
  have hPn1 : (4294967296 : Int) ^ n = 4294967296 * P := by rw [hPn, ← pow_succ, show n - 1 + 1 = n from by omega]
  rw [← hPn] at sv c1
  have y0 : P * (t * 2 ^ s) ≤ y * 2 ^ s := by
    have : P * (t : Int) * 2 ^ s ≤ y * 2 ^ s := Int.mul_le_mul_of_nonneg_right (by omega) (by omega)
    rw [Int.mul_assoc] at this
    exact this
  have y1 : (y : Int) * 2 ^ s < 4294967296 * P := by
    have h1 : (y : Int) < P * (t + 1) := by rw [Int.mul_add]; omega
    have h2 : (y : Int) * 2 ^ s < P * (t + 1) * 2 ^ s := Int.mul_lt_mul_of_pos_right h1 hP
    have h3 : P * ((t : Int) * 2 ^ s + 2 ^ s) ≤ P * 4294967296 := Int.mul_le_mul_of_nonneg_left t1' (by omega)
    have h4 : P * ((t : Int) + 1) * 2 ^ s = P * ((t : Int) * 2 ^ s + 2 ^ s) := by rw [Int.mul_assoc, Int.add_mul, Int.one_mul]
    omega
  have y2 : P * 2147483648 ≤ P * (t * 2 ^ s) := Int.mul_le_mul_of_nonneg_left t0' (by omega)
  have bs := val_split b' n (by omega)
  have b1 := val_nonneg (wb.take n)
  have b2 := val_nonneg (wb.drop n)
  have lbt : (b'.take n).length = n := by rw [List.length_take]; omega
  have hz : val (b'.drop n) = 0 := by
    rcases Int.lt_or_le 0 (val (b'.drop n)) with c | c
    · have : (4294967296 : Int) ^ n * 1 ≤ 4294967296 ^ n * val (b'.drop n) := Int.mul_le_mul_of_nonneg_left (by omega) (by rw [hPn1]; omega)
      omega
    · omega
  rw [hz, vb'] at bs
  have wbt := wb.take n
  have hvb : val (b'.take n) = y * 2 ^ s := by omega
  generalize hbt : b'.take n = b at lbt hvb wbt b1
  have bs2 := val_split b (n - 1) (by omega)
  have bs3 := val_cons' b (n - 1) (by omega)
  rw [List.drop_eq_nil_of_le (show b.length ≤ n - 1 + 1 by omega)] at bs3
  simp only [val, Int.mul_zero, Int.add_zero] at bs3
  have bs4 := val_lt (wbt.take (n - 1))
  rw [List.length_take, Nat.min_eq_left (by omega), ← hPn] at bs4
  rw [bs3, ← hPn] at bs2
  have hV : 2147483648 ≤ b.getD (n - 1) 0 := by
    rcases Int.lt_or_le (b.getD (n - 1) 0) 2147483648 with c | c
    · have : P * (b.getD (n - 1) 0 + 1) ≤ P * 2147483648 := Int.mul_le_mul_of_nonneg_left (by omega) (by omega)
      rw [Int.mul_add] at this
      omega
    · exact c
  have y3 : 0 < P * 2147483648 := by omega
  -- the top limbs of x are less than y
  obtain ⟨K, hK⟩ : ∃ K, (lim x).length + 1 = K + n := ⟨(lim x).length + 1 - n, by omega⟩
  have xl : (x : Int) < 4294967296 ^ (lim x).length := lt_pow (len_le.1 (Nat.le_refl _))
  have eL : (4294967296 : Int) ^ (lim x).length = 4294967296 ^ K * P := by rw [hPn, ← Int.pow_add, show K + (n - 1) = (lim x).length from by omega]
  have hsp := val_split a' K (by omega)
  have a0 := val_nonneg (wa.take K)
  have hX : val (a'.drop K) < val b := by
    have h1 : (x : Int) * 2 ^ s < 4294967296 ^ K * P * 2 ^ s := Int.mul_lt_mul_of_pos_right (by omega) hP
    rw [Int.mul_assoc] at h1
    have h2 : (4294967296 : Int) ^ K * val (a'.drop K) < 4294967296 ^ K * (P * 2 ^ s) := by omega
    have h3 := Int.lt_of_mul_lt_mul_left h2 (Int.le_of_lt (pow_pos K))
    have h4 : P * (1 * 2 ^ s) ≤ P * (t * 2 ^ s) := Int.mul_le_mul_of_nonneg_left (Int.mul_le_mul_of_nonneg_right (by omega) (by omega)) (by omega)
    rw [Int.one_mul] at h4
    omega
  have L := long_l0 b wbt n K s hs lbt h2 (by omega) hV (x * 2 ^ s) K a' (List.replicate K 0) (Nat.le_refl _) wa (by omega) (W.replicate _) (by simp) (by rw [va, List.drop_eq_nil_of_le (by simp)]; simp [val]) hX
  have eA : (x : Int) * 2 ^ s = ((x * 2 ^ s : Nat) : Int) := by rw [Int.natCast_mul, two_cast]
  have eB : (y : Int) * 2 ^ s = ((y * 2 ^ s : Nat) : Int) := by rw [Int.natCast_mul, two_cast]
  have eS : ((2 : Int) ^ s) = ((2 ^ s : Nat) : Int) := (two_cast s).symm
  have r1 : ((x : Int) * 2 ^ s / val b).toNat = x / y := by
    rw [hvb, eA, eB, ← Int.natCast_ediv, Int.toNat_natCast, Nat.mul_div_mul_right _ _ (Nat.two_pow_pos s)]
  have r2 : ((x : Int) * 2 ^ s % val b / 2 ^ s).toNat = x % y := by
    rw [hvb, eA, eB, eS, ← Int.natCast_emod, ← Int.natCast_ediv, Int.toNat_natCast, Nat.mul_mod_mul_right, Nat.mul_div_cancel _ (Nat.two_pow_pos s)]
  rw [r1, r2] at L
  exact long_f (lim x) (lim y) a' b' t s n K hn h2 hK hx hm lb ht es ea eb _ (by rw [hbt]; exact L)
theorem split_ev (x y : Nat) (hy : y ≠ 0) (hx : (lim x).length < 1073741824) (hly : (lim y).length < 1073741824) : Ev (fun f => nat_split.f f (lim x) (lim y)) (lim (x / y), lim (x % y)) := by
  unfold nat_split.f
  refine Ev.bind (order_ev x y (by omega) (by omega)) ?_
  by_cases c : x < y
  · have hc : cmpI x y < 0 := by unfold cmpI; rw [if_pos c]; omega
    simp only [if_pos hc, clone_eq (lim x) (by omega), Option.bind_some]
    rw [Nat.div_eq_of_lt c, Nat.mod_eq_of_lt c, lim_zero]
    exact Ev.now _
  · have hc : ¬ cmpI x y < 0 := by unfold cmpI; rw [if_neg c]; split <;> omega
    have lp : 0 < (lim y).length := by
      rcases Nat.eq_zero_or_pos (lim y).length with h | h
      · exact absurd (lim_eq_nil.1 (List.length_eq_zero_iff.1 h)) hy
      · exact h
    simp only [if_neg hc]
    by_cases c1 : (lim y).length = 1
    · have hb : y < 4294967296 := by have := len_le.1 (Nat.le_of_eq c1); simpa using this
      have ey : lim y = [(y : Int)] := by
        rw [lim_pos hy, Nat.mod_eq_of_lt hb, Nat.div_eq_of_lt hb, lim_zero]
      rw [ey]
      simp only [List.length_singleton, Int.natCast_one, if_true, if_pos (show (0 : Int) < 1 by decide), show rd [(y : Int)] 0 = (y : Int) from rfl]
      refine Ev.bind (short_ev x y (by omega) (by omega) hb) ?_
      refine Ev.bind (of_ev' (x % y) ?_ ?_) (Ev.now _)
      · have := Nat.mod_lt x (show y > 0 by omega)
        exact u64_in (by omega) (by omega)
      · have := Nat.mod_lt x (show y > 0 by omega)
        omega
    · simp only [if_neg (show ¬ ((lim y).length : Int) = 1 by omega)]
      exact Ev.bind (long_ev x y (by omega) _ rfl (by omega) hx) (Ev.now _)
theorem lim_len_zero (y : Nat) : (lim y).length = 0 ↔ y = 0 := by rw [List.length_eq_zero_iff, lim_eq_nil]
theorem div_ev (x y : Nat) (hx : x < 4294967296 ^ 64) (hy : y < 4294967296 ^ 64) : Ev (fun f => nat_Div.f f (lim x) (lim y)) (if y = 0 then ([], [], 7) else (lim (x / y), lim (x % y), 0)) := by
  have lx := len_le.2 hx
  have ly := len_le.2 hy
  unfold nat_Div.f
  simp only [right_eq (lim x) (by omega), right_eq (lim y) (by omega), right_lim hx, right_lim hy, Option.bind_some, if_true, Bool.not_true]
  refine Ev.step (fun f => nat_Div.j0.eq_2 _ _ _ f) ?_
  simp only [Bool.false_eq_true, if_false]
  by_cases c : y = 0
  · have := (lim_len_zero y).2 c
    simp only [if_pos c, if_pos (show ((lim y).length : Int) = 0 by omega)]
    exact Ev.now _
  · have : (lim y).length ≠ 0 := fun h => c ((lim_len_zero y).1 h)
    simp only [if_neg c, if_neg (show ¬ ((lim y).length : Int) = 0 by omega)]
    exact Ev.bind (split_ev x y c (by omega) (by omega)) (Ev.now _)
theorem div_no (a b : List Int) (ha : a.length < 9223372036854775808) (hb : b.length < 9223372036854775808) (h : (rightB a && rightB b) = false) : Ev (fun f => nat_Div.f f a b) ([], [], 1) := by
  have j : Ev (fun f => nat_Div.j0 f a b true) ([], [], 1) := Ev.step (fun f => nat_Div.j0.eq_2 _ _ _ f) (by simp only [if_true]; exact Ev.now _)
  unfold nat_Div.f
  simp only [right_eq a ha, right_eq b hb, Option.bind_some]
  cases r1 : rightB a with
  | false => simp only [Bool.false_eq_true, if_false]; exact j
  | true =>
    rw [r1, Bool.true_and] at h
    simp only [h, if_true, Bool.not_false]
    exact j
theorem gcd_l0 (n : Nat) : ∀ x y : Nat, y ≤ n → (lim x).length < 1073741824 → (lim y).length < 1073741824 → Ev (fun f => nat_Gcd.l0 f (lim x) (lim y)) (lim (Nat.gcd x y), 0) := by
  induction n with
  | zero =>
    intro x y h hx hy
    have : y = 0 := by omega
    subst this
    refine Ev.step (fun f => nat_Gcd.l0.eq_2 _ _ f) ?_
    simp only [lim_zero, List.length_nil, Int.natCast_zero, gt_iff_lt, Int.lt_irrefl, if_false, clone_eq (lim x) (by omega), Option.bind_some, Nat.gcd_zero_right]
    exact Ev.now _
  | succ n ih =>
    intro x y h hx hy
    by_cases c : y = 0
    · exact ih x y (by omega) hx hy
    · have : (lim y).length ≠ 0 := fun h => c ((lim_len_zero y).1 h)
      refine Ev.step (fun f => nat_Gcd.l0.eq_2 _ _ f) ?_
      simp only [if_pos (show ((lim y).length : Int) > 0 by omega)]
      refine Ev.bind (split_ev x y c hx hy) ?_
      have hm := Nat.mod_lt x (show y > 0 by omega)
      have L := ih y (x % y) (by omega) hy (by have := len_mono (Nat.le_of_lt hm); omega)
      have e : Nat.gcd x y = Nat.gcd y (x % y) := by rw [Nat.gcd_comm x y, Nat.gcd_rec, Nat.gcd_comm]
      rw [e]
      exact L
theorem gcd_ev (x y : Nat) (hx : x < 4294967296 ^ 64) (hy : y < 4294967296 ^ 64) : Ev (fun f => nat_Gcd.f f (lim x) (lim y)) (lim (Nat.gcd x y), 0) := by
  have lx := len_le.2 hx
  have ly := len_le.2 hy
  unfold nat_Gcd.f
  simp only [right_eq (lim x) (by omega), right_eq (lim y) (by omega), right_lim hx, right_lim hy, Option.bind_some, if_true, Bool.not_true]
  refine Ev.step (fun f => nat_Gcd.j0.eq_2 _ _ _ f) ?_
  simp only [Bool.false_eq_true, if_false]
  exact gcd_l0 y x y (Nat.le_refl _) (by omega) (by omega)
theorem gcd_no (a b : List Int) (ha : a.length < 9223372036854775808) (hb : b.length < 9223372036854775808) (h : (rightB a && rightB b) = false) : Ev (fun f => nat_Gcd.f f a b) ([], 1) := by
  have j : Ev (fun f => nat_Gcd.j0 f a b true) ([], 1) := Ev.step (fun f => nat_Gcd.j0.eq_2 _ _ _ f) (by simp only [if_true]; exact Ev.now _)
  unfold nat_Gcd.f
  simp only [right_eq a ha, right_eq b hb, Option.bind_some]
  cases r1 : rightB a with
  | false => simp only [Bool.false_eq_true, if_false]; exact j
  | true =>
    rw [r1, Bool.true_and] at h
    simp only [h, if_true, Bool.not_false]
    exact j
end Go.Proofs.YtdgbeejhccogpaaDoor.F
