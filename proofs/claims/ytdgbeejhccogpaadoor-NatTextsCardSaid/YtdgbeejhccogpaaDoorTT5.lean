/- Texts: the document's writing. No condition beyond the lists' lengths. -/
import Derived.Test.YtdgbeejhccogpaaDoorTT4
namespace Go.Proofs.YtdgbeejhccogpaaDoor.F
set_option linter.unusedSimpArgs false
set_option linter.unusedVariables false
open Go.RowKit Go.Proofs.YtdgbeejhccogpaaDoor.T Go.Proofs.YtdgbeejhccogpaaDoorW.PrintWords Go.Proofs.YtdgbeejhccogpaaDoorW.PrintLast Go.Proofs.YtdgbeejhccogpaaDoorW.PrintMore Go.Proofs.YtdgbeejhccogpaaDoor.M

theorem digit_str (r : Nat) (h : r < 10) : strOfNums [(IntKind.u64.wrap (48 + (r : Int))) % 256] = ⟨[UInt8.ofNat (48 + r)].toArray⟩ := by
  rw [u64_in (by omega) (by omega)]
  unfold strOfNums
  simp only [List.map]
  rw [show ((48 + (r : Int)) % 256).toNat = 48 + r from by omega]
theorem dec_len (x : Nat) : (dec x).length ≤ x + 1 := by
  induction x using Nat.strongRecOn with
  | _ x ih =>
    rw [dec]
    split
    · simp
    · rename_i h
      have := ih (x / 10) (by omega)
      simp only [List.length_append, List.length_singleton]
      omega
theorem rtext_l0 (m : Nat) : ∀ (x : Nat) (s : List UInt8), x < 10 ^ (m + 1) → (lim x).length < 268435456 → s.length + m < 1000000000 →
    Ev (fun k => samphireref02_Text.l0 k (lim x) ⟨s.toArray⟩) ⟨(dec x ++ s).toArray⟩ := by
  have body : ∀ (x : Nat) (s : List UInt8), (lim x).length < 268435456 → s.length < 1000000000 → (x / 10 ≠ 0 → Ev (fun k => samphireref02_Text.l0 k (lim (x / 10)) ⟨(UInt8.ofNat (48 + x % 10) :: s).toArray⟩) ⟨(dec (x / 10) ++ UInt8.ofNat (48 + x % 10) :: s).toArray⟩) →
      Ev (fun k => samphireref02_Text.l0 k (lim x) ⟨s.toArray⟩) ⟨(dec x ++ s).toArray⟩ := by
    intro x s hx hs H
    have hw := half_ev (lim x) (W_lim x) (2 * (lim x).length) (by omega) (by omega)
    have hv := hl_val (lim x) (lim x).length (Nat.le_refl _)
    rw [val_lim] at hv
    have hL := hl_len (lim x) (2 * (lim x).length) 0
    have hDD := hl_D (W_lim x) (2 * (lim x).length) 0
    have i1 : wrap64 (2 * ((lim x).length : Int)) = ((2 * (lim x).length : Nat) : Int) := by rw [wrap64_in (by omega) (by omega)]; omega
    refine Ev.step (fun k => samphireref02_Text.l0.eq_2 _ _ k) ?_
    rw [i1]
    refine Ev.bind hw ?_
    generalize hl (lim x) (2 * (lim x).length) 0 = h at hv hL hDD
    have i2 : wrap64 ((h.length : Int) - 1) = (h.length : Int) - 1 := by clear i1; rw [wrap64_in (by omega) (by omega)]
    rw [i2]
    refine rtext_l1 s h hDD (by clear i1 i2; omega) h.length (Or.inr trivial) h 0 (Nat.le_refl _) rfl hDD (by decide) (by decide) rfl (by rw [List.drop_eq_nil_of_le (Nat.le_refl _)]; rfl) ?_
    rw [hv]
    have e1 : ((x : Int) / 10).toNat = x / 10 := by clear i1 i2; omega
    have e2 : (x : Int) % 10 = ((x % 10 : Nat) : Int) := by clear i1 i2; omega
    rw [e1, e2, digit_str (x % 10) (Nat.mod_lt _ (by decide)), app_mk]
    have sz : (⟨[UInt8.ofNat (48 + x % 10)].toArray⟩ : ByteArray).size + (⟨s.toArray⟩ : ByteArray).size ≤ 9223372036854775807 := by rw [size_mk, size_mk, List.length_singleton]; clear i1 i2; omega
    simp only [if_pos sz]
    rw [dec]
    by_cases c : x / 10 = 0
    · have z : ((lim (x / 10)).length : Int) = 0 := by rw [c, lim_zero]; rfl
      simp only [if_pos z, dif_pos c]
      exact Ev.now _
    · have z : ¬ ((lim (x / 10)).length : Int) = 0 := fun e => c ((lim_len_zero _).1 (by clear i1 i2; omega))
      simp only [if_neg z, dif_neg c, List.append_assoc]
      exact H c
  induction m with
  | zero =>
    intro x s h hx hs
    exact body x s hx (by omega) (fun c => absurd (show x / 10 = 0 by omega) c)
  | succ m ih =>
    intro x s h hx hs
    refine body x s hx (by omega) (fun c => ?_)
    have l2 := len_mono (Nat.div_le_self x 10)
    refine ih (x / 10) _ ?_ (by omega) (by rw [List.length_cons]; omega)
    rw [Nat.pow_succ] at h
    omega
theorem rtext_ev (x : Nat) (hx : x < 4294967296 ^ 64) : Ev (fun k => samphireref02_Text.f k (lim x)) ⟨(dec x).toArray⟩ := by
  have lx := len_le.2 hx
  unfold samphireref02_Text.f
  have p := pw (m := 640 + 1) (n := 64) rfl (by omega)
  have L := rtext_l0 640 x [] (Nat.lt_of_lt_of_le hx p) (by omega) (by simp)
  rw [List.append_nil] at L
  exact L
theorem text_dec (x : Nat) (hx : x < 4294967296 ^ 64) : Ev (fun k => nat_Text.f k (lim x)) ⟨(dec x).toArray⟩ := by
  obtain ⟨l, T, g, v, _⟩ := text_ev x hx
  rw [good_dec l.length l rfl g, v] at T
  exact T
end Go.Proofs.YtdgbeejhccogpaaDoor.F
