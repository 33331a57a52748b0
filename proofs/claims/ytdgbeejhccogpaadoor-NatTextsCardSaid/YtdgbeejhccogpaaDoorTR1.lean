/- What the printed functions of the document's answer for layer nat tell, in numbers: Right, Small, Half, Whole, Cmp, Add, Sub. No condition beyond the lists' lengths. -/
import Derived.Test.YtdgbeejhccogpaaDoorTF3
namespace Go.Proofs.YtdgbeejhccogpaaDoor.F
set_option linter.unusedSimpArgs false
set_option linter.unusedVariables false
open Go.RowKit Go.Proofs.YtdgbeejhccogpaaDoor.T Go.Proofs.YtdgbeejhccogpaaDoorW.PrintWords Go.Proofs.YtdgbeejhccogpaaDoorW.PrintLast Go.Proofs.YtdgbeejhccogpaaDoorW.PrintMore Go.Proofs.YtdgbeejhccogpaaDoor.M

theorem small_eq (l : List Int) : samphireref02_Small.f l = some (decide ((l.length : Int) ≤ 70)) := rfl
theorem rright_eq (l : List Int) (hw : W l) (hl : l.length < 9223372036854775808) : samphireref02_Right.f l = some (rightB l) := by
  unfold samphireref02_Right.f rightB
  by_cases h1 : l.length ≤ 64
  · rw [if_neg (by omega)]
    by_cases h2 : l.length = 0
    · rw [if_pos (by omega)]; simp [h2]
    · have e : wrap64 ((l.length : Int) - 1) = ((l.length - 1 : Nat) : Int) := by rw [wrap64_in (by omega) (by omega)]; omega
      have hd := hw.getD (l.length - 1)
      rw [if_neg (by omega), e, if_pos (by omega), if_pos (by omega), rd_nat]
      congr 1
      by_cases c : l.getD (l.length - 1) 0 = 0
      · rw [c, decide_eq_false (by omega), decide_eq_false (by omega)]
      · rw [decide_eq_true (by omega), decide_eq_true ⟨h1, .inr c⟩]
  · rw [if_pos (by omega), decide_eq_false (by omega)]

/-! ### halves -/
def hd (a : List Int) (i : Nat) : Int := if i % 2 = 0 then a.getD (i / 2) 0 % 65536 else a.getD (i / 2) 0 / 65536
def hl (a : List Int) : Nat → Nat → List Int
  | 0, _ => []
  | m + 1, i => hd a i :: hl a m (i + 1)
theorem hl_len (a : List Int) (m : Nat) : ∀ i, (hl a m i).length = m := by
  induction m with
  | zero => intro i; rfl
  | succ m ih => intro i; simp only [hl, List.length_cons, ih]
theorem hd_D {a : List Int} (ha : W a) (i : Nat) : 0 ≤ hd a i ∧ hd a i < 65536 := by
  have := ha.getD (i / 2)
  unfold hd
  split <;> omega
theorem hl_D {a : List Int} (ha : W a) (m : Nat) : ∀ i, D 65536 (hl a m i) := by
  induction m with
  | zero => intro i; exact D.nil _
  | succ m ih => intro i; exact D.cons (hd_D ha i).1 (hd_D ha i).2 (ih _)
theorem hl_vs (a : List Int) (m : Nat) : ∀ i, vb 65536 (hl a m i) = vs 65536 (hd a) m i := by
  induction m with
  | zero => intro i; rfl
  | succ m ih => intro i; simp only [hl, vb, vs, ih]
theorem hd_two (a : List Int) (m : Nat) : ∀ i, vs 65536 (hd a) (2 * m) (2 * i) = vs 4294967296 (fun t => a.getD t 0) m i := by
  induction m with
  | zero => intro i; rfl
  | succ m ih =>
    intro i
    rw [show 2 * (m + 1) = 2 * m + 1 + 1 from by omega]
    simp only [vs]
    rw [show 2 * i + 1 + 1 = 2 * (i + 1) from by omega, ih (i + 1)]
    have e1 : hd a (2 * i) = a.getD i 0 % 65536 := by unfold hd; rw [if_pos (by omega), show 2 * i / 2 = i from by omega]
    have e2 : hd a (2 * i + 1) = a.getD i 0 / 65536 := by unfold hd; rw [if_neg (by omega), show (2 * i + 1) / 2 = i from by omega]
    rw [e1, e2]
    omega
theorem hl_val (a : List Int) (n : Nat) (h : a.length ≤ n) : vb 65536 (hl a (2 * n) 0) = val a := by
  rw [hl_vs]
  have := hd_two a n 0
  rw [Nat.mul_zero] at this
  rw [this, vs_list _ _ _ _ (by omega), List.drop_zero, vb_val]
theorem hl_getD (a : List Int) (m : Nat) : ∀ i t, t < m → (hl a m i).getD t 0 = hd a (i + t) := by
  induction m with
  | zero => intro i t h; omega
  | succ m ih =>
    intro i t h
    cases t with
    | zero => simp [hl]
    | succ t =>
      simp only [hl, List.getD_cons_succ]
      rw [ih (i + 1) t (by omega), show i + 1 + t = i + (t + 1) from by omega]
theorem half_l0 (a : List Int) (ha : W a) (n : Nat) (hn : n < 1099511627776) (hla : a.length < 1099511627776) (m : Nat) : ∀ (o : List Int) (i : Nat), i + m = n → o.length = i →
    Ev (fun k => samphireref02_Half.l0 k a (n : Int) o (i : Int)) (o ++ hl a m i) := by
  induction m with
  | zero =>
    intro o i h ho
    refine Ev.step (f := fun _ => some o) (fun k => ?_) (by simpa [hl] using Ev.now o)
    simp only [samphireref02_Half.l0]; rw [if_neg (by omega)]
  | succ m ih =>
    intro o i h ho
    have wa := ha.getD (i / 2)
    have ed : wrap64 (Int.tdiv (i : Int) 2) = ((i / 2 : Nat) : Int) := by rw [tdiv_pos (by omega), wrap64_in (by omega) (by omega)]; omega
    have em : Int.tmod (i : Int) 2 = ((i % 2 : Nat) : Int) := by rw [tmod_pos (by omega)]; omega
    refine Ev.step (f := fun k => samphireref02_Half.l0 k a (n : Int) (o ++ [hd a i]) ((i + 1 : Nat) : Int)) (fun k => ?_) ?_
    · simp only [samphireref02_Half.l0]
      rw [if_pos (by omega), ed, em, wrap64_in (n := (i : Int) + 1) (by omega) (by omega)]
      by_cases c : i / 2 < a.length
      · rw [if_pos (by omega), if_pos (by omega), rd_nat, u64_in (n := a.getD (i / 2) 0) (by omega) (by omega), tdiv_pos wa.1, tmod_pos wa.1, u64_in (by omega) (by omega)]
        by_cases c2 : i % 2 = 0
        · rw [if_pos (by omega), if_pos (by omega)]
          unfold hd
          rw [if_pos c2]
          rfl
        · rw [if_neg (by omega), if_pos (by omega)]
          unfold hd
          rw [if_neg c2]
          rfl
      · have z := getD_end a (i / 2) (by omega)
        rw [if_neg (by omega)]
        have hz : hd a i = 0 := by unfold hd; rw [z]; split <;> rfl
        by_cases c2 : i % 2 = 0
        · rw [if_pos (by omega), if_pos (by omega), hz]; rfl
        · rw [if_neg (by omega), if_pos (by omega), hz]; rfl
    · have := ih (o ++ [hd a i]) (i + 1) (by omega) (by simp [ho])
      simpa [hl, List.append_assoc] using this
theorem half_ev (a : List Int) (ha : W a) (n : Nat) (hn : n < 1099511627776) (hla : a.length < 1099511627776) : Ev (fun k => samphireref02_Half.f k a (n : Int)) (hl a n 0) := by
  have := half_l0 a ha n hn hla n [] 0 (by omega) rfl
  rw [List.nil_append] at this
  exact this

/-! ### wholes -/
def mg : List Int → List Int
  | [] => []
  | [x] => [x]
  | x :: y :: t => (x + 65536 * y) :: mg t
theorem mg_len : ∀ l : List Int, (mg l).length ≤ l.length
  | [] => Nat.le_refl _
  | [_] => Nat.le_refl _
  | _ :: _ :: t => by have := mg_len t; simp only [mg, List.length_cons]; omega
theorem mg_W : ∀ {l : List Int}, D 65536 l → W (mg l)
  | [], _ => W.nil
  | [x], h => by have := h x List.mem_cons_self; exact W.cons this.1 (by omega) W.nil
  | x :: y :: t, h => by
    have h1 := h x List.mem_cons_self
    have h2 := h y (List.mem_cons_of_mem _ List.mem_cons_self)
    have h3 := mg_W (l := t) (fun z hz => h z (List.mem_cons_of_mem _ (List.mem_cons_of_mem _ hz)))
    exact W.cons (by omega) (by omega) h3
theorem mg_val : ∀ l : List Int, val (mg l) = vb 65536 l
  | [] => rfl
  | [x] => by simp [mg, val, vb]
  | x :: y :: t => by have := mg_val t; simp only [mg, val, vb, this]; omega
theorem whole_l1 (n : Nat) : ∀ o : List Int, o.length = n → n < 9223372036854775807 → Ev (fun k => samphireref02_Whole.l1 k o) (trimL o) := by
  induction n with
  | zero =>
    intro o h hn
    have : o = [] := List.eq_nil_of_length_eq_zero h
    subst this
    refine Ev.step (f := fun _ => some []) (fun k => ?_) (Ev.now _)
    simp only [samphireref02_Whole.l1]; rfl
  | succ n ih =>
    intro o h hn
    have e : wrap64 ((o.length : Int) - 1) = (n : Int) := by rw [wrap64_in (by omega) (by omega)]; omega
    have t := take_snoc o n (by omega)
    rw [List.take_of_length_le (by omega)] at t
    by_cases c : rd o n = 0
    · refine Ev.step (f := fun k => samphireref02_Whole.l1 k (o.take n)) (fun k => ?_) ?_
      · simp only [samphireref02_Whole.l1]
        rw [if_pos (by omega), e, if_pos (by omega), if_pos (by omega), if_pos c, if_pos (by omega), Int.toNat_natCast]
      · rw [rd_nat] at c
        have e2 : trimL o = trimL (o.take n) := by
          rw [c] at t
          conv => lhs; rw [t]
          exact trimL_snoc _
        rw [e2]
        exact ih (o.take n) (by rw [List.length_take]; omega) (by omega)
    · refine Ev.step (f := fun _ => some o) (fun k => ?_) ?_
      · simp only [samphireref02_Whole.l1]
        rw [if_pos (by omega), e, if_pos (by omega), if_pos (by omega), if_neg c]
      · rw [rd_nat] at c
        rw [show trimL o = o from by rw [t, trimL_snoc_ne _ c]]
        exact Ev.now _
theorem whole_l0 (l : List Int) (hD : D 65536 l) (hl : l.length < 1099511627776) (m : Nat) : ∀ (o : List Int) (i : Nat), l.length ≤ i + m → o.length ≤ i →
    i ≤ l.length + 1 → Ev (fun k => samphireref02_Whole.l0 k l o (i : Int)) (trimL (o ++ mg (l.drop i))) := by
  induction m using Nat.strongRecOn with
  | _ m ih =>
    intro o i h ho hi
    by_cases c : i < l.length
    · have d0 := D.getD (by decide) hD i
      have d1 := D.getD (by decide) hD (i + 1)
      have e1 := drop_cons l i c
      by_cases c2 : i + 1 < l.length
      · have e2 := drop_cons l (i + 1) c2
        refine Ev.step (f := fun k => samphireref02_Whole.l0 k l (o ++ [l.getD i 0 + 65536 * l.getD (i + 1) 0]) ((i + 2 : Nat) : Int)) (fun k => ?_) ?_
        · simp only [samphireref02_Whole.l0]
          rw [if_pos (by omega), if_pos (by omega), wrap64_in (n := (i : Int) + 1) (by omega) (by omega), if_pos (by omega), if_pos (by omega), if_pos (by omega), rd_nat, show (i : Int) + 1 = ((i + 1 : Nat) : Int) from by omega, rd_nat, u64_in (n := 65536 * l.getD (i + 1) 0) (by omega) (by omega), u64_in (by omega) (by omega), wrap64_in (by omega) (by omega), Int.emod_eq_of_lt (by omega) (by omega)]
          rfl
        · have := ih (m - 2) (by omega) (o ++ [l.getD i 0 + 65536 * l.getD (i + 1) 0]) (i + 2) (by omega) (by simp; omega) (by omega)
          rw [e1, e2]
          simpa [mg, List.append_assoc] using this
      · refine Ev.step (f := fun k => samphireref02_Whole.l0 k l (o ++ [l.getD i 0]) ((i + 2 : Nat) : Int)) (fun k => ?_) ?_
        · simp only [samphireref02_Whole.l0]
          rw [if_pos (by omega), if_pos (by omega), wrap64_in (n := (i : Int) + 1) (by omega) (by omega), if_neg (by omega), if_pos (by omega), rd_nat, wrap64_in (by omega) (by omega), Int.emod_eq_of_lt (by omega) (by omega)]
          rfl
        · have := ih (m - 1) (by omega) (o ++ [l.getD i 0]) (i + 2) (by omega) (by simp; omega) (by omega)
          rw [e1, List.drop_of_length_le (show l.length ≤ i + 1 by omega)]
          rw [List.drop_of_length_le (show l.length ≤ i + 2 by omega)] at this
          simpa [mg] using this
    · refine Ev.step (f := fun k => samphireref02_Whole.l1 k o) (fun k => ?_) ?_
      · simp only [samphireref02_Whole.l0]
        rw [if_neg (by omega)]
      · rw [List.drop_of_length_le (by omega)]
        simpa [mg] using whole_l1 o.length o rfl (by omega)
theorem whole_ev (l : List Int) (hD : D 65536 l) (hl : l.length < 1099511627776) : Ev (fun k => samphireref02_Whole.f k l) (lim (vb 65536 l).toNat) := by
  have := whole_l0 l hD hl l.length [] 0 (by omega) (by simp) (by omega)
  rw [List.nil_append, List.drop_zero, trimL_lim (mg_W hD), mg_val] at this
  exact this

/-! ### Cmp -/
end Go.Proofs.YtdgbeejhccogpaaDoor.F
