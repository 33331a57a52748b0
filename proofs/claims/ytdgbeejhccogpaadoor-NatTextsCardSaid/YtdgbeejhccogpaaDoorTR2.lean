/- What the printed functions of the document's answer for layer nat tell, in numbers: Add, Sub, Mul, and the laws' own 'told'. No condition beyond the lists' lengths. -/
import Derived.Test.YtdgbeejhccogpaaDoorTR1
namespace Go.Proofs.YtdgbeejhccogpaaDoor.F
set_option linter.unusedSimpArgs false
set_option linter.unusedVariables false
open Go.RowKit Go.Proofs.YtdgbeejhccogpaaDoor.T Go.Proofs.YtdgbeejhccogpaaDoorW.PrintWords Go.Proofs.YtdgbeejhccogpaaDoorW.PrintLast Go.Proofs.YtdgbeejhccogpaaDoorW.PrintMore Go.Proofs.YtdgbeejhccogpaaDoor.M

theorem pow16_two (n : Nat) : (65536 : Int) ^ (2 * n) = 4294967296 ^ n := by
  rw [Int.pow_mul]; rfl
theorem carry_zero {B v q r P : Int} (hv : 0 ≤ v) (hv1 : v < P) (h : v + P * q = r) (h0 : 0 ≤ r) (h1 : r < P) : q = 0 := by
  rcases Int.lt_trichotomy q 0 with c | c | c
  · have : P * (q + 1) ≤ 0 := Int.mul_nonpos_of_nonneg_of_nonpos (by omega) (by omega)
    rw [Int.mul_add] at this
    omega
  · exact c
  · have : P * 1 ≤ P * q := Int.mul_le_mul_of_nonneg_left (by omega) (by omega)
    omega
theorem vs_nth (B : Int) (l : List Int) (n : Nat) (h : l.length = n) : vs B (fun t => l.getD t 0) n 0 = vb B l := by
  rw [vs_list _ _ _ _ (by omega), List.drop_zero]

/-! ### Add -/
theorem radd_l0 (y : List Int) (hy : D 65536 y) (n : Nat) (hn : n < 1099511627776) (hly : y.length = n) (m : Nat) : ∀ (x : List Int) (c : Int) (i : Nat), i + m = n → x.length = n → D 65536 x → 0 ≤ c → c ≤ 1 →
    D 65536 (x.take i ++ (carr 65536 (fun t => x.getD t 0 + y.getD t 0) m c i).1) ∧
    Ev (fun k => samphireref02_Add.l0 k (n : Int) x y c (i : Int)) (lim (vb 65536 (x.take i ++ (carr 65536 (fun t => x.getD t 0 + y.getD t 0) m c i).1)).toNat) := by
  induction m with
  | zero =>
    intro x c i h hx hd h0 h1
    have e : x.take i ++ (carr 65536 (fun t => x.getD t 0 + y.getD t 0) 0 c i).1 = x := by simp [carr, List.take_of_length_le (show x.length ≤ i by omega)]
    rw [e]
    refine ⟨hd, Ev.step (f := fun k => (samphireref02_Whole.f k x).bind fun t => some t) (fun k => ?_) ?_⟩
    · simp only [samphireref02_Add.l0]; rw [if_neg (by omega)]
    · exact Ev.bind (whole_ev x hd (by omega)) (Ev.now _)
  | succ m ih =>
    intro x c i h hx hd h0 h1
    have dx := D.getD (by decide) hd i
    have dy := D.getD (by decide) hy i
    obtain ⟨v, hv⟩ : ∃ v, v = x.getD i 0 + y.getD i 0 + c := ⟨_, rfl⟩
    have hset : D 65536 (x.set i (v % 65536)) := fun z hz => by
      rcases List.mem_or_eq_of_mem_set hz with h | rfl
      · exact hd z h
      · omega
    have key := ih (x.set i (v % 65536)) (v / 65536) (i + 1) (by omega) (by simpa using hx) hset (by omega) (by omega)
    have ec : ∀ t, i + 1 ≤ t → (x.set i (v % 65536)).getD t 0 + y.getD t 0 = x.getD t 0 + y.getD t 0 := fun t ht => by
      rw [M.getD_set_ne _ _ _ _ (by omega)]
    rw [carr_congr 65536 m _ _ ec, take_set_self _ _ _ (by omega)] at key
    have e2 : x.take i ++ [v % 65536] ++ (carr 65536 (fun t => x.getD t 0 + y.getD t 0) m (v / 65536) (i + 1)).1 = x.take i ++ (carr 65536 (fun t => x.getD t 0 + y.getD t 0) (m + 1) c i).1 := by
      simp only [carr, ← hv, List.append_assoc, List.singleton_append]
    rw [e2] at key
    refine ⟨key.1, Ev.step (f := fun k => samphireref02_Add.l0 k (n : Int) (x.set i (v % 65536)) y (v / 65536) ((i + 1 : Nat) : Int)) (fun k => ?_) key.2⟩
    simp only [samphireref02_Add.l0]
    rw [if_pos (by omega), if_pos (by omega), if_pos (by omega), if_pos (by omega), rd_nat, rd_nat, u64_in (n := x.getD i 0 + y.getD i 0) (by omega) (by omega), ← hv, u64_in (n := v) (by omega) (by omega), tmod_pos (by omega), tdiv_pos (by omega), u64_in (by omega) (by omega), wrap64_in (by omega) (by omega), Int.toNat_natCast]
    rfl
theorem radd_ev (x y : Nat) (hx : (lim x).length < 1073741824) (hy : (lim y).length < 1073741824) : Ev (fun k => samphireref02_Add.f k (lim x) (lim y)) (lim (x + y)) := by
  have hwx := W_lim x
  have hwy := W_lim y
  obtain ⟨n, hn⟩ : ∃ n : Nat, n = max (lim x).length (lim y).length := ⟨_, rfl⟩
  have e1 : mx ((lim x).length : Int) ((lim y).length : Int) = (n : Int) := by unfold mx; split <;> omega
  have e2 : wrap64 (wrap64 (2 * (n : Int)) + 2) = ((2 * (n + 1) : Nat) : Int) := by rw [wrap64_in (n := 2 * (n : Int)) (by omega) (by omega), wrap64_in (by omega) (by omega)]; omega
  have hlx : (hl (lim x) (2 * (n + 1)) 0).length = 2 * (n + 1) := hl_len _ _ _
  have hly : (hl (lim y) (2 * (n + 1)) 0).length = 2 * (n + 1) := hl_len _ _ _
  have key := radd_l0 (hl (lim y) (2 * (n + 1)) 0) (hl_D hwy _ _) (2 * (n + 1)) (by omega) hly (2 * (n + 1)) (hl (lim x) (2 * (n + 1)) 0) 0 0 (by omega) hlx (hl_D hwx _ _) (by omega) (by omega)
  rw [List.take_zero, List.nil_append] at key
  have hv := carr_val 65536 (fun t => (hl (lim x) (2 * (n + 1)) 0).getD t 0 + (hl (lim y) (2 * (n + 1)) 0).getD t 0) (2 * (n + 1)) 0 0
  have hL := carr_len 65536 (fun t => (hl (lim x) (2 * (n + 1)) 0).getD t 0 + (hl (lim y) (2 * (n + 1)) 0).getD t 0) (2 * (n + 1)) 0 0
  rw [vs_add, vs_nth _ _ _ hlx, vs_nth _ _ _ hly, hl_val _ _ (by omega), hl_val _ _ (by omega), val_lim, val_lim, pow16_two] at hv
  have v0 := vb_nonneg (by decide) key.1
  have v1 := vb_lt (by decide) key.1
  rw [hL, pow16_two] at v1
  have lx := lt_pow (len_le.1 (show (lim x).length ≤ n by omega))
  have ly := lt_pow (len_le.1 (show (lim y).length ≤ n by omega))
  have hp := pow_succ n
  have hq := carry_zero (B := 0) v0 v1 hv (by omega) (by omega)
  rw [hq] at hv
  refine Ev.congr (f := fun k => (samphireref02_Half.f k (lim x) ((2 * (n + 1) : Nat) : Int)).bind fun p => (samphireref02_Half.f k (lim y) ((2 * (n + 1) : Nat) : Int)).bind fun q => samphireref02_Add.l0 k ((2 * (n + 1) : Nat) : Int) p q 0 0) (fun k => ?_) ?_
  · unfold samphireref02_Add.f
    rw [e1, e2]
  · refine Ev.bind (half_ev _ hwx _ (by omega) (by omega)) ?_
    refine Ev.bind (half_ev _ hwy _ (by omega) (by omega)) ?_
    have := key.2
    rw [show (vb 65536 (carr 65536 (fun t => (hl (lim x) (2 * (n + 1)) 0).getD t 0 + (hl (lim y) (2 * (n + 1)) 0).getD t 0) (2 * (n + 1)) 0 0).1).toNat = x + y from by omega] at this
    exact this

/-! ### Sub -/
end Go.Proofs.YtdgbeejhccogpaaDoor.F
