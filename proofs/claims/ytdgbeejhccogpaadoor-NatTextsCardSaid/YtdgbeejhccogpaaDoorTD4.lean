/- Division: away at a place, and back. No condition beyond the lists' lengths. -/
import Derived.Test.YtdgbeejhccogpaaDoorTD3
namespace Go.Proofs.YtdgbeejhccogpaaDoor.F
set_option linter.unusedSimpArgs false
set_option linter.unusedVariables false
open Go.RowKit Go.Proofs.YtdgbeejhccogpaaDoor.T Go.Proofs.YtdgbeejhccogpaaDoorW.PrintWords Go.Proofs.YtdgbeejhccogpaaDoorW.PrintLast Go.Proofs.YtdgbeejhccogpaaDoorW.PrintMore Go.Proofs.YtdgbeejhccogpaaDoor.M

theorem add_ne {k i t : Nat} (h : i + 1 ≤ t) : k + i ≠ k + t := by omega
theorem idx {k i n m L b : Nat} (h : i + (m + 1) = n) (hb : b = n) (hk : k + n < L) (hL : L < 1099511627776) :
    k + i < L ∧ i + 1 ≤ n ∧ i + 1 + m = n ∧ k + i < k + n + 1 ∧ i < b ∧ wrap64 ((k : Int) + (i : Int)) = ((k + i : Nat) : Int) ∧ wrap64 ((i : Int) + 1) = ((i + 1 : Nat) : Int) ∧ (0 : Int) ≤ ((k + i : Nat) : Int) ∧ ((k + i : Nat) : Int) < (L : Int) ∧ (i : Int) < (n : Int) ∧ (0 : Int) ≤ (i : Int) ∧ (i : Int) < (b : Int) :=
  ⟨by omega, by omega, by omega, by omega, by omega, w_add (by omega) (by omega), w_succ (by omega), n_nn _, n_lt (by omega), n_lt (by omega), n_nn _, n_lt (by omega)⟩
/-- One limb, less so many times another, and what is owed. -/
theorem take_num {x y q c d : Int} (x0 : 0 ≤ x) (x1 : x < 4294967296) (y0 : 0 ≤ y) (y1 : y < 4294967296) (q0 : 0 ≤ q) (q1 : q < 4294967296) (c0 : 0 ≤ c) (c1 : c < 4294967296) (d0 : 0 ≤ d) (d1 : d ≤ 1) :
    ∃ O N, IntKind.u64.wrap (c + IntKind.u64.wrap (q * IntKind.u64.wrap y)) = O ∧ IntKind.u64.wrap (IntKind.u64.wrap (IntKind.u64.wrap x - O % 4294967296) - d) = N ∧ N % 4294967296 = (x - q * y + -(c + d)) % 4294967296 ∧
      0 ≤ O / 4294967296 ∧ O / 4294967296 < 4294967296 ∧ 0 ≤ N / 9223372036854775808 ∧ N / 9223372036854775808 ≤ 1 ∧ (x - q * y + -(c + d)) / 4294967296 = -(O / 4294967296 + N / 9223372036854775808) := by
  have hm := mul_lt_sq q0 q1 y0 y1
  obtain ⟨z, hz⟩ : ∃ z, z = q * y := ⟨_, rfl⟩
  rw [← hz] at hm ⊢
  refine ⟨c + z, _, ?_, rfl, ?_⟩
  · rw [u64_in y0 (by omega), ← hz, u64_in hm.1 (by omega), u64_in (by omega) (by omega)]
  · rw [u64_in x0 (by omega), IntKind.wrap_u64, IntKind.wrap_u64]
    omega
theorem take_end {x c d : Int} (x0 : 0 ≤ x) (x1 : x < 4294967296) (c0 : 0 ≤ c) (c1 : c < 4294967296) (d0 : 0 ≤ d) (d1 : d ≤ 1) :
    ∃ N, IntKind.u64.wrap (IntKind.u64.wrap (IntKind.u64.wrap x - c) - d) = N ∧ N % 4294967296 = (x + -(c + d)) % 4294967296 ∧ (N / 9223372036854775808 != 0) = decide (x + -(c + d) < 0) := by
  refine ⟨_, rfl, ?_, ?_⟩
  · rw [u64_in x0 (by omega), IntKind.wrap_u64, IntKind.wrap_u64]
    omega
  · rw [u64_in x0 (by omega), IntKind.wrap_u64, IntKind.wrap_u64]
    by_cases h : x + -(c + d) < 0
    · rw [decide_eq_true h]
      exact bne_iff_ne.2 (by omega)
    · rw [decide_eq_false h]
      exact bne_eq_false_iff_eq.2 (by omega)
theorem take_l0 (b : List Int) (hb : W b) (q : Int) (q0 : 0 ≤ q) (q1 : q < 4294967296) (k n : Nat) (hn : b.length = n) (m : Nat) :
    ∀ (a : List Int) (c d : Int) (i : Nat), i + m = n → W a → k + n < a.length → a.length < 1099511627776 → 0 ≤ c → c < 4294967296 → 0 ≤ d → d ≤ 1 →
    Ev (fun f => nat_take.l0 f a b (k : Int) q c d (n : Int) (i : Int))
      (decide (a.getD (k + n) 0 + (carr 4294967296 (fun t => a.getD (k + t) 0 - q * b.getD t 0) m (-(c + d)) i).2 < 0),
       a.take (k + i) ++ (carr 4294967296 (fun t => a.getD (k + t) 0 - q * b.getD t 0) m (-(c + d)) i).1 ++ [(a.getD (k + n) 0 + (carr 4294967296 (fun t => a.getD (k + t) 0 - q * b.getD t 0) m (-(c + d)) i).2) % 4294967296] ++ a.drop (k + n + 1)) := by
  induction m with
  | zero =>
    intro a c d i h ha hk hla c0 c1 d0 d1
    have hi : i = n := by omega
    subst hi
    have wx := ha.getD (k + i)
    obtain ⟨N, e1, e2, e3⟩ := take_end wx.1 wx.2 c0 c1 d0 d1
    have i0 : wrap64 ((k : Int) + (i : Int)) = ((k + i : Nat) : Int) := w_add (by omega) (by omega)
    have p0 := n_nn (k + i)
    have p1 := n_lt hk
    have p2 : ¬ ((i : Nat) : Int) < (i : Int) := Int.lt_irrefl _
    refine Ev.step (f := fun _ => some (decide (a.getD (k + i) 0 + -(c + d) < 0), a.set (k + i) ((a.getD (k + i) 0 + -(c + d)) % 4294967296))) (fun f => ?_) ?_
    · rw [nat_take.l0.eq_2]
      simp only [if_neg p2, hn, i0, rd_nat, e1, e2, e3, if_pos p0, if_pos p1, Int.toNat_natCast]
    · simp only [carr, List.append_nil]
      rw [List.set_eq_take_append_cons_drop, if_pos hk]
      simp only [List.append_assoc, List.singleton_append]
      exact Ev.now _
  | succ m ih =>
    intro a c d i h ha hk hla c0 c1 d0 d1
    have wb := hb.getD i
    have wx := ha.getD (k + i)
    obtain ⟨hki, hin, him, hkd, hib, i0, i1, p0, p1, p2, p3, p4⟩ := idx h hn hk hla
    obtain ⟨O, N, e1, e2, e3, o0, o1, n0, n1, e4⟩ := take_num wx.1 wx.2 wb.1 wb.2 q0 q1 c0 c1 d0 d1
    obtain ⟨v, hv⟩ : ∃ v, v = a.getD (k + i) 0 - q * b.getD i 0 + -(c + d) := ⟨_, rfl⟩
    rw [← hv] at e3 e4
    refine Ev.step (f := fun f => nat_take.l0 f (a.set (k + i) (v % 4294967296)) b (k : Int) q (O / 4294967296) (N / 9223372036854775808) (n : Int) ((i + 1 : Nat) : Int)) (fun f => ?_) ?_
    · rw [nat_take.l0.eq_2]
      simp only [if_pos p2, if_pos p3, if_pos p4, i0, rd_nat, e1, e2, e3, if_pos p0, if_pos p1, Int.toNat_natCast, i1]
    · have L := ih (a.set (k + i) (v % 4294967296)) (O / 4294967296) (N / 9223372036854775808) (i + 1) him (ha.set _ (Int.emod_nonneg v (by decide)) (Int.emod_lt_of_pos v (by decide))) (by rw [List.length_set]; exact hk) (by rw [List.length_set]; exact hla) o0 o1 n0 n1
      have ec : ∀ t, i + 1 ≤ t → (a.set (k + i) (v % 4294967296)).getD (k + t) 0 - q * b.getD t 0 = a.getD (k + t) 0 - q * b.getD t 0 := fun t ht => by
        rw [M.getD_set_ne _ _ _ _ (add_ne ht)]
      rw [carr_congr 4294967296 m _ _ ec, M.getD_set_ne _ (k + i) (k + n) _ (add_ne hin), show k + (i + 1) = k + i + 1 from rfl, take_set_self _ _ _ hki, List.drop_set_of_lt hkd] at L
      simp only [carr, ← hv, e4]
      simpa [List.append_assoc] using L
theorem take_ev (a b : List Int) (ha : W a) (hb : W b) (q : Int) (q0 : 0 ≤ q) (q1 : q < 4294967296) (k n : Nat) (hn : b.length = n) (hk : k + n < a.length) (hla : a.length < 1099511627776) :
    Ev (fun f => nat_take.f f a b (k : Int) q)
      (decide (a.getD (k + n) 0 + (carr 4294967296 (fun t => a.getD (k + t) 0 - q * b.getD t 0) n 0 0).2 < 0),
       a.take k ++ (carr 4294967296 (fun t => a.getD (k + t) 0 - q * b.getD t 0) n 0 0).1 ++ [(a.getD (k + n) 0 + (carr 4294967296 (fun t => a.getD (k + t) 0 - q * b.getD t 0) n 0 0).2) % 4294967296] ++ a.drop (k + n + 1)) := by
  have L := take_l0 b hb q q0 q1 k n hn n a 0 0 0 (by omega) ha hk hla (by omega) (by omega) (by omega) (by omega)
  unfold nat_take.f
  rw [hn]
  exact L
theorem give_num {x y c : Int} (x0 : 0 ≤ x) (x1 : x < 4294967296) (y0 : 0 ≤ y) (y1 : y < 4294967296) (c0 : 0 ≤ c) (c1 : c ≤ 1) :
    IntKind.u64.wrap (c + IntKind.u64.wrap (IntKind.u64.wrap x + IntKind.u64.wrap y)) = x + y + c ∧ 0 ≤ (x + y + c) / 4294967296 ∧ (x + y + c) / 4294967296 ≤ 1 ∧ 0 ≤ (x + y + c) % 4294967296 ∧ (x + y + c) % 4294967296 < 4294967296 := by
  rw [u64_in x0 (by omega), u64_in y0 (by omega), u64_in (n := x + y) (by omega) (by omega), u64_in (by omega) (by omega)]
  omega
theorem give_l0 (b : List Int) (hb : W b) (k n : Nat) (hn : b.length = n) (m : Nat) :
    ∀ (a : List Int) (c : Int) (i : Nat), i + m = n → W a → k + n < a.length → a.length < 1099511627776 → 0 ≤ c → c ≤ 1 →
    Ev (fun f => nat_give.l0 f a b (k : Int) c (n : Int) (i : Int))
      (a.take (k + i) ++ (carr 4294967296 (fun t => a.getD (k + t) 0 + b.getD t 0) m c i).1 ++ [(a.getD (k + n) 0 + (carr 4294967296 (fun t => a.getD (k + t) 0 + b.getD t 0) m c i).2) % 4294967296] ++ a.drop (k + n + 1)) := by
  induction m with
  | zero =>
    intro a c i h ha hk hla c0 c1
    have hi : i = n := by omega
    subst hi
    have wx := ha.getD (k + i)
    have i0 : wrap64 ((k : Int) + (i : Int)) = ((k + i : Nat) : Int) := w_add (by omega) (by omega)
    have p0 := n_nn (k + i)
    have p1 := n_lt hk
    have p2 : ¬ ((i : Nat) : Int) < (i : Int) := Int.lt_irrefl _
    have e1 : c % 4294967296 = c := by omega
    refine Ev.step (f := fun _ => some (a.set (k + i) ((a.getD (k + i) 0 + c) % 4294967296))) (fun f => ?_) ?_
    · rw [nat_give.l0.eq_2]
      simp only [if_neg p2, hn, i0, rd_nat, e1, if_pos p0, if_pos p1, Int.toNat_natCast]
    · simp only [carr, List.append_nil]
      rw [List.set_eq_take_append_cons_drop, if_pos hk]
      simp only [List.append_assoc, List.singleton_append]
      exact Ev.now _
  | succ m ih =>
    intro a c i h ha hk hla c0 c1
    have wb := hb.getD i
    have wx := ha.getD (k + i)
    obtain ⟨hki, hin, him, hkd, hib, i0, i1, p0, p1, p2, p3, p4⟩ := idx h hn hk hla
    obtain ⟨e1, o0, o1, n0, n1⟩ := give_num wx.1 wx.2 wb.1 wb.2 c0 c1
    obtain ⟨v, hv⟩ : ∃ v, v = a.getD (k + i) 0 + b.getD i 0 + c := ⟨_, rfl⟩
    rw [← hv] at e1 o0 o1 n0 n1
    refine Ev.step (f := fun f => nat_give.l0 f (a.set (k + i) (v % 4294967296)) b (k : Int) (v / 4294967296) (n : Int) ((i + 1 : Nat) : Int)) (fun f => ?_) ?_
    · rw [nat_give.l0.eq_2]
      simp only [if_pos p2, if_pos p3, if_pos p4, i0, rd_nat, e1, if_pos p0, if_pos p1, Int.toNat_natCast, i1]
    · have L := ih (a.set (k + i) (v % 4294967296)) (v / 4294967296) (i + 1) him (ha.set _ n0 n1) (by rw [List.length_set]; exact hk) (by rw [List.length_set]; exact hla) o0 o1
      have ec : ∀ t, i + 1 ≤ t → (a.set (k + i) (v % 4294967296)).getD (k + t) 0 + b.getD t 0 = a.getD (k + t) 0 + b.getD t 0 := fun t ht => by
        rw [M.getD_set_ne _ _ _ _ (add_ne ht)]
      rw [carr_congr 4294967296 m _ _ ec, M.getD_set_ne _ (k + i) (k + n) _ (add_ne hin), show k + (i + 1) = k + i + 1 from rfl, take_set_self _ _ _ hki, List.drop_set_of_lt hkd] at L
      simp only [carr]
      rw [← hv]
      simpa [List.append_assoc] using L
theorem give_ev (a b : List Int) (ha : W a) (hb : W b) (k n : Nat) (hn : b.length = n) (hk : k + n < a.length) (hla : a.length < 1099511627776) :
    Ev (fun f => nat_give.f f a b (k : Int))
      (a.take k ++ (carr 4294967296 (fun t => a.getD (k + t) 0 + b.getD t 0) n 0 0).1 ++ [(a.getD (k + n) 0 + (carr 4294967296 (fun t => a.getD (k + t) 0 + b.getD t 0) n 0 0).2) % 4294967296] ++ a.drop (k + n + 1)) := by
  have L := give_l0 b hb k n hn n a 0 0 (by omega) ha hk hla (by omega) (by omega)
  unfold nat_give.f
  rw [hn]
  exact L
end Go.Proofs.YtdgbeejhccogpaaDoor.F
