/- The document's answer: twice, half, even, in numbers. No condition beyond the lists' lengths. -/
import Derived.Test.YtdgbeejhccogpaaDoorR3
import Derived.Test.YtdgbeejhccogpaaDoorD6
namespace Go.Proofs.YtdgbeejhccogpaaDoor.R
set_option linter.unusedSimpArgs false
set_option linter.unusedVariables false
open Go.RowKit Go.Proofs.YtdgbeejhccogpaaDoor.P Go.Proofs.YtdgbeejhccogpaaDoorW.PrintWords Go.Proofs.YtdgbeejhccogpaaDoorW.PrintLast Go.Proofs.YtdgbeejhccogpaaDoorW.PrintMore Go.Proofs.YtdgbeejhccogpaaDoor.M Go.Proofs.YtdgbeejhccogpaaDoor.F

theorem half_l1' (n : Nat) : ∀ o : List Int, o.length = n → n < 9223372036854775807 → Ev (fun k => samphireref02_half.l1 k o) (trimL o) := by
  induction n with
  | zero =>
    intro o h hn
    have : o = [] := List.eq_nil_of_length_eq_zero h
    subst this
    refine Ev.step (f := fun _ => some []) (fun k => ?_) (Ev.now _)
    simp only [samphireref02_half.l1]; rfl
  | succ n ih =>
    intro o h hn
    have e : wrap64 ((o.length : Int) - 1) = (n : Int) := by rw [wrap64_in (by omega) (by omega)]; omega
    have t := take_snoc o n (by omega)
    rw [List.take_of_length_le (by omega)] at t
    by_cases c : rd o n = 0
    · refine Ev.step (f := fun k => samphireref02_half.l1 k (o.take n)) (fun k => ?_) ?_
      · simp only [samphireref02_half.l1]
        rw [if_pos (by omega), e, if_pos (by omega), if_pos (by omega), if_pos c, if_pos (by omega), Int.toNat_natCast]
      · rw [rd_nat] at c
        have e2 : trimL o = trimL (o.take n) := by
          rw [c] at t
          conv => lhs; rw [t]
          exact trimL_snoc _
        rw [e2]
        exact ih (o.take n) (by rw [List.length_take]; omega) (by omega)
    · refine Ev.step (f := fun _ => some o) (fun k => ?_) ?_
      · simp only [samphireref02_half.l1]
        rw [if_pos (by omega), e, if_pos (by omega), if_pos (by omega), if_neg c]
      · rw [rd_nat] at c
        rw [show trimL o = o from by rw [t, trimL_snoc_ne _ c]]
        exact Ev.now _

theorem or32 {x y : Int} (x0 : 0 ≤ x) (x1 : x < 4294967296) (hx : x % 2 = 0) (y0 : 0 ≤ y) (y1 : y ≤ 1) : Go.bits .or .u32 x y = x + y :=
  Go.bits_join .u32 32 (by decide) wraps_u32 1 x y x0 hx (by omega) y0 (by omega) (by omega)
theorem or31 {x y : Int} (x0 : 0 ≤ x) (x1 : x < 2147483648) (y0 : 0 ≤ y) (y1 : y < 4294967296) (hy : y % 2147483648 = 0) : Go.bits .or .u32 x y = x + y := by
  rw [bits_comm, Go.bits_join .u32 32 (by decide) wraps_u32 31 y x y0 hy (by omega) x0 (by omega) (by omega), Int.add_comm]
def tw : List Int → Int → List Int
  | [], c => if c > 0 then [c] else []
  | x :: t, c => (x * 2 % 4294967296 + c) :: tw t (x / 2147483648)
theorem tw_val : ∀ (l : List Int) (c : Int), W l → 0 ≤ c → c ≤ 1 → val (tw l c) = 2 * val l + c ∧ W (tw l c)
  | [], c, _, c0, c1 => by
    simp only [tw]
    split
    · exact ⟨by simp [val], W.cons c0 (by omega) W.nil⟩
    · exact ⟨by simp [val]; omega, W.nil⟩
  | x :: t, c, hw, c0, c1 => by
    have wx := hw.head
    obtain ⟨a, b⟩ := tw_val t (x / 2147483648) hw.tail (by omega) (by omega)
    simp only [tw, val]
    exact ⟨by rw [a]; omega, W.cons (by omega) (by omega) b⟩
theorem tw_can : ∀ (l : List Int) (c : Int), W l → 0 ≤ c → c ≤ 1 → trimL l = l → trimL (tw l c) = tw l c ∧ (tw l c = [] → l = [] ∧ c = 0)
  | [], c, _, c0, c1, _ => by
    simp only [tw]
    split
    · refine ⟨?_, fun h => by cases h⟩
      simp only [trimL]
      rw [if_neg (by omega)]
    · exact ⟨rfl, fun _ => ⟨trivial, by omega⟩⟩
  | x :: t, c, hw, c0, c1, h => by
    have wx := hw.head
    have ht : trimL t = t ∧ ¬ (t = [] ∧ x = 0) := by
      simp only [trimL] at h
      split at h
      · cases h
      · rename_i hn
        have := (List.cons.inj h).2
        rw [this] at hn
        exact ⟨this, hn⟩
    obtain ⟨a, b⟩ := tw_can t (x / 2147483648) hw.tail (by omega) (by omega) ht.1
    simp only [tw]
    refine ⟨?_, fun h => by cases h⟩
    simp only [trimL]
    rw [a, if_neg]
    rintro ⟨e1, e2⟩
    obtain ⟨b1, b2⟩ := b e1
    exact ht.2 ⟨b1, by omega⟩
theorem twice_l0 (l : List Int) (hw : W l) (hl : l.length < 1099511627776) (m : Nat) : ∀ (o : List Int) (c : Int) (i : Nat), i + m = l.length → o.length = i → 0 ≤ c → c ≤ 1 →
    Ev (fun k => samphireref02_twice.l0 k l o c (i : Int)) (o ++ tw (l.drop i) c) := by
  induction m with
  | zero =>
    intro o c i h ho c0 c1
    rw [List.drop_eq_nil_of_le (by omega)]
    simp only [tw]
    by_cases hc : c > 0
    · refine Ev.step (f := fun _ => some (o ++ [c])) (fun k => ?_) (by rw [if_pos hc]; exact Ev.now _)
      rw [samphireref02_twice.l0.eq_2, if_neg (by omega), if_pos hc, if_pos (by omega)]
    · refine Ev.step (f := fun _ => some o) (fun k => ?_) (by rw [if_neg hc, List.append_nil]; exact Ev.now _)
      rw [samphireref02_twice.l0.eq_2, if_neg (by omega), if_neg hc]
  | succ m ih =>
    intro o c i h ho c0 c1
    have wx := hw.getD i
    have e : Go.bits .or .u32 (rd l (i : Int) * 2 % 4294967296) c = l.getD i 0 * 2 % 4294967296 + c := by
      rw [rd_nat]
      exact or32 (by omega) (by omega) (by omega) c0 c1
    have e2 : rd l (i : Int) = l.getD i 0 := rd_nat l i
    have hi : i < l.length := by omega
    have i1 : wrap64 ((i : Int) + 1) = ((i + 1 : Nat) : Int) := w_succ (by clear e e2; omega)
    have L := ih (o ++ [l.getD i 0 * 2 % 4294967296 + c]) (l.getD i 0 / 2147483648) (i + 1) (by clear e e2 i1; omega) (by clear e e2 i1; simp; omega) (by clear e e2 i1; omega) (by clear e e2 i1; omega)
    refine Ev.step (f := fun k => samphireref02_twice.l0 k l (o ++ [l.getD i 0 * 2 % 4294967296 + c]) (l.getD i 0 / 2147483648) ((i + 1 : Nat) : Int)) (fun k => ?_) ?_
    · rw [samphireref02_twice.l0.eq_2, if_pos (n_lt hi), if_pos (n_nn i), if_pos (by clear e e2 i1; omega), e, e2, i1]
    · rw [drop_cons l i hi]
      simp only [tw]
      simpa using L
theorem twice_ev (x c : Nat) (hc : c ≤ 1) (hx : (lim x).length < 1073741824) : Ev (fun k => samphireref02_twice.f k (lim x) (c : Int)) (lim (2 * x + c)) := by
  have L := twice_l0 (lim x) (W_lim x) (by omega) (lim x).length [] c 0 (by omega) rfl (by omega) (by omega)
  rw [List.drop_zero, List.nil_append] at L
  obtain ⟨a, b⟩ := tw_val (lim x) c (W_lim x) (by omega) (by omega)
  obtain ⟨t, _⟩ := tw_can (lim x) c (W_lim x) (by omega) (by omega) (can_trim (lim_can x))
  rw [trimL_lim b, a, val_lim] at t
  rw [← t] at L
  rw [show (2 * (x : Int) + c).toNat = 2 * x + c from by omega] at L
  exact L
theorem half_l0 (l : List Int) (hw : W l) (hl : l.length < 1099511627776) (m : Nat) : ∀ (o : List Int) (i : Nat), i + m = l.length → o.length = i →
    Ev (fun k => samphireref02_half.l0 k l o (i : Int)) (trimL (o ++ us 2 2147483648 (l.drop i))) := by
  induction m with
  | zero =>
    intro o i h ho
    rw [List.drop_eq_nil_of_le (by omega)]
    simp only [us, List.append_nil]
    refine Ev.step (f := fun k => samphireref02_half.l1 k o) (fun k => ?_) (half_l1' o.length o rfl (by omega))
    rw [samphireref02_half.l0.eq_2, if_neg (by omega)]
  | succ m ih =>
    intro o i h ho
    have wx := hw.getD i
    have wy := hw.getD (i + 1)
    have hi : i < l.length := by omega
    have L := ih (o ++ [l.getD i 0 / 2 + 2147483648 * (l.getD (i + 1) 0 % 2)]) (i + 1) (by omega) (by simp; omega)
    have i1 : wrap64 ((i : Int) + 1) = ((i + 1 : Nat) : Int) := w_succ (by omega)
    have e1 : rd l (i : Int) = l.getD i 0 := rd_nat l i
    have e2 : rd l ((i + 1 : Nat) : Int) = l.getD (i + 1) 0 := rd_nat l (i + 1)
    have e3 : Go.bits .or .u32 (l.getD i 0 / 2) (l.getD (i + 1) 0 * 2147483648 % 4294967296) = l.getD i 0 / 2 + 2147483648 * (l.getD (i + 1) 0 % 2) := by
      clear e1 e2 i1
      rw [or31 (by omega) (by omega) (by omega) (by omega) (by omega)]
      omega
    refine Ev.step (f := fun k => samphireref02_half.l0 k l (o ++ [l.getD i 0 / 2 + 2147483648 * (l.getD (i + 1) 0 % 2)]) ((i + 1 : Nat) : Int)) (fun k => ?_) ?_
    · rw [samphireref02_half.l0.eq_2, i1, if_pos (n_lt hi), if_pos (n_nn i)]
      by_cases c : i + 1 < l.length
      · rw [if_pos (n_lt c), if_pos (n_nn (i + 1)), if_pos (by clear e1 e2 e3 i1; omega), e1, e2, e3]
      · have z : l.getD (i + 1) 0 = 0 := getD_end l (i + 1) (by omega)
        rw [if_neg (by clear e1 e2 e3 i1; omega), if_pos (by clear e1 e2 e3 i1; omega), e1, z]
        simp
    · rw [us_drop _ _ l i hi]
      simpa using L
theorem half_ev' (x : Nat) (hx : (lim x).length < 1073741824) : Ev (fun k => samphireref02_half.f k (lim x)) (lim (x / 2)) := by
  have L := half_l0 (lim x) (W_lim x) (by omega) (lim x).length [] 0 (by omega) rfl
  rw [List.drop_zero, List.nil_append, trimL_lim (us_W (by decide) (by decide) (by decide) (W_lim x))] at L
  have h := us_val (P := 2) (Q := 2147483648) (by decide) (lim x)
  rw [val_lim] at h
  have w0 := (W_lim x).getD 0
  rw [show (val (us 2 2147483648 (lim x))).toNat = x / 2 from by omega] at L
  exact L
theorem even_eq (x : Nat) : samphireref02_even.f (lim x) = some (decide (x % 2 = 0)) := by
  unfold samphireref02_even.f
  by_cases c : x = 0
  · subst c
    rw [lim_zero]
    rfl
  · have hl : (lim x).length ≠ 0 := fun h => c ((lim_len_zero x).1 h)
    rw [if_neg (by omega), if_pos (by omega), lim_pos c]
    congr 1
    rw [show rd (((x % 4294967296 : Nat) : Int) :: lim (x / 4294967296)) 0 = ((x % 4294967296 : Nat) : Int) from rfl, tmod_pos (by omega)]
    by_cases h : x % 2 = 0
    · rw [decide_eq_true h]
      exact beq_iff_eq.2 (by omega)
    · rw [decide_eq_false h]
      exact beq_eq_false_iff_ne.2 (by omega)
end Go.Proofs.YtdgbeejhccogpaaDoor.R
