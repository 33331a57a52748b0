/- Bits of numbers, and what the printed Bits of both sides tell. No condition beyond the lists' lengths. -/
import Derived.Test.YtdgbeejhccogpaaDoorTR3
namespace Go.Proofs.YtdgbeejhccogpaaDoor.M
set_option linter.unusedSimpArgs false
set_option linter.unusedVariables false
/-- How many bits. -/
def bl (n : Nat) : Nat := if n = 0 then 0 else bl (n / 2) + 1
termination_by n
decreasing_by omega
theorem bl_zero : bl 0 = 0 := by rw [bl]; rfl
theorem bl_pos {n : Nat} (h : n ≠ 0) : bl n = bl (n / 2) + 1 := by rw [bl, if_neg h]
theorem bl_lt (n : Nat) : n < 2 ^ bl n := by
  induction n using Nat.strongRecOn with
  | _ n ih =>
    by_cases h : n = 0
    · subst h; rw [bl_zero]; decide
    · rw [bl_pos h, Nat.pow_succ]
      have := ih (n / 2) (by omega)
      omega
theorem bl_le {n m : Nat} (h : n < 2 ^ m) : bl n ≤ m := by
  induction m generalizing n with
  | zero => have : n = 0 := by simpa using h
            subst this; rw [bl_zero]; omega
  | succ m ih =>
    by_cases h0 : n = 0
    · subst h0; rw [bl_zero]; omega
    · rw [bl_pos h0]
      have := ih (n := n / 2) (by rw [Nat.pow_succ] at h; omega)
      omega
theorem bl_ge {n m : Nat} (h : 2 ^ m ≤ n) : m + 1 ≤ bl n := by
  rcases Nat.lt_or_ge m (bl n) with c | c
  · exact c
  · have h1 := bl_lt n
    have : (2 : Nat) ^ bl n ≤ 2 ^ m := Nat.pow_le_pow_right (by decide) c
    omega
theorem bl_eq {n m : Nat} (h1 : 2 ^ m ≤ n) (h2 : n < 2 ^ (m + 1)) : bl n = m + 1 := by
  have := bl_le h2
  have := bl_ge h1
  omega
theorem bl_low {n : Nat} (h : n ≠ 0) : 2 ^ (bl n - 1) ≤ n := by
  rcases Nat.lt_or_ge n (2 ^ (bl n - 1)) with c | c
  · have h1 := bl_le c
    have : bl n ≠ 0 := by rw [bl_pos h]; omega
    omega
  · exact c
theorem bl_shift {a k r : Nat} (ha : a ≠ 0) (hr : r < 2 ^ k) : bl (r + 2 ^ k * a) = k + bl a := by
  have h1 := bl_low ha
  have h2 := bl_lt a
  have h3 : bl a ≠ 0 := by rw [bl_pos ha]; omega
  obtain ⟨b, hb⟩ : ∃ b, bl a = b + 1 := ⟨bl a - 1, by omega⟩
  rw [hb] at h1 h2 ⊢
  refine bl_eq (m := k + b) ?_ ?_
  · rw [Nat.pow_add]
    have : 2 ^ k * 2 ^ b ≤ 2 ^ k * a := Nat.mul_le_mul_left _ h1
    omega
  · rw [show k + b + 1 = k + (b + 1) from by omega, Nat.pow_add 2 k (b + 1)]
    have : 2 ^ k * (a + 1) ≤ 2 ^ k * 2 ^ (b + 1) := Nat.mul_le_mul_left _ h2
    rw [Nat.mul_add] at this
    omega
theorem bl_mono {a b : Nat} (h : a ≤ b) : bl a ≤ bl b := bl_le (Nat.lt_of_le_of_lt h (bl_lt b))
theorem bitLenAux_bl (f : Nat) : ∀ x, x < 2 ^ f → Lib.bitLenAux f x = bl x := by
  induction f with
  | zero => intro x h; have : x = 0 := by simpa using h
            subst this; rw [bl_zero]; rfl
  | succ f ih =>
    intro x h
    rw [Lib.bitLenAux]
    by_cases h0 : x = 0
    · rw [if_pos h0, h0, bl_zero]
    · rw [if_neg h0, bl_pos h0, ih (x / 2) (by rw [Nat.pow_succ] at h; omega)]
      omega
theorem bitLen_bl {x : Nat} (h : x < 18446744073709551616) : Lib.bitLen x = bl x := bitLenAux_bl 64 x (by simpa using h)
theorem pow32 (i : Nat) : (4294967296 : Nat) ^ i = 2 ^ (32 * i) := by rw [Nat.pow_mul]
/-- A limb of a number. -/
theorem lim_getD (i : Nat) : ∀ x : Nat, (lim x).getD i 0 = ((x / 4294967296 ^ i % 4294967296 : Nat) : Int) := by
  induction i with
  | zero =>
    intro x
    by_cases h : x = 0
    · subst h; rw [lim_zero]; rfl
    · rw [lim_pos h]; simp
  | succ i ih =>
    intro x
    by_cases h : x = 0
    · subst h; rw [lim_zero]; simp
    · rw [lim_pos h, List.getD_cons_succ, ih, Nat.div_div_eq_div_mul, Nat.pow_succ, Nat.mul_comm (4294967296 ^ i)]
theorem limb_bit (a k : Nat) (hk : k < 32) : a % 4294967296 / 2 ^ k % 2 = a / 2 ^ k % 2 := by
  have e : (4294967296 : Nat) = 2 ^ k * 2 ^ (32 - k) := by rw [← Nat.pow_add, show k + (32 - k) = 32 from by omega]
  rw [e, Nat.mod_mul_right_div_self]
  exact Nat.mod_mod_of_dvd _ ⟨2 ^ (31 - k), by rw [show 32 - k = (31 - k) + 1 from by omega, Nat.pow_succ']⟩
end Go.Proofs.YtdgbeejhccogpaaDoor.M
namespace Go.Proofs.YtdgbeejhccogpaaDoor.F
set_option linter.unusedSimpArgs false
set_option linter.unusedVariables false
open Go.RowKit Go.Proofs.YtdgbeejhccogpaaDoor.T Go.Proofs.YtdgbeejhccogpaaDoorW.PrintWords Go.Proofs.YtdgbeejhccogpaaDoorW.PrintLast Go.Proofs.YtdgbeejhccogpaaDoorW.PrintMore Go.Proofs.YtdgbeejhccogpaaDoor.M

theorem bits_eq (x : Nat) (hx : x < 4294967296 ^ 64) : nat_Bits.f (lim x) = some ((bl x : Nat) : Int) := by
  have lx := len_le.2 hx
  unfold nat_Bits.f
  rw [right_eq _ (by omega), right_lim hx]
  simp only [Option.bind_some, if_true]
  by_cases h0 : (lim x).length = 0
  · have : x = 0 := lim_eq_nil.1 (List.eq_nil_of_length_eq_zero h0)
    subst this
    rw [if_pos (by omega), bl_zero]
    rfl
  · have e : wrap64 (((lim x).length : Int) - 1) = (((lim x).length - 1 : Nat) : Int) := by rw [wrap64_in (by omega) (by omega)]; omega
    obtain ⟨t, z, e1, e2, e3⟩ := snoc_of (l := lim x) (by omega)
    have hz := last_ne (lim_can x) (by omega)
    rw [e2] at hz
    have hw := (W_lim x).getD ((lim x).length - 1)
    rw [e2] at hw
    have ht : W t := by have := W_lim x; rw [e1] at this; exact this.left
    have hv := val_lim x
    rw [e1, val_append] at hv
    have tv0 := val_nonneg ht
    have tv1 := val_lt ht
    rw [if_neg (by omega), e, if_pos (by omega), if_pos (by omega), rd_nat, e2]
    unfold bits_Len32.f
    rw [if_pos ⟨hw.1, by omega⟩]
    simp only [Option.bind_some]
    have hb : Lib.bitLen z.toNat = bl z.toNat := bitLen_bl (by omega)
    have hb32 : bl z.toNat ≤ 32 := bl_le (by have : (2 : Nat) ^ 32 = 4294967296 := by decide
                                             omega)
    rw [hb, ← e3, wrap64_in (n := 32 * (t.length : Int)) (by omega) (by omega), wrap64_in (by omega) (by omega)]
    congr 1
    have hxx : x = (val t).toNat + 2 ^ (32 * t.length) * z.toNat := by
      have : (x : Int) = (((val t).toNat + 2 ^ (32 * t.length) * z.toNat : Nat) : Int) := by
        rw [← hv, Int.natCast_add, Int.natCast_mul, ← pow32, pow_cast, Int.toNat_of_nonneg tv0, Int.toNat_of_nonneg hw.1]
        simp [val]
      exact Int.ofNat.inj this
    rw [hxx, bl_shift (by omega) (by rw [← pow32]; exact pow_lt (by rw [Int.toNat_of_nonneg tv0]; exact tv1))]
    omega
theorem rbits_bit (x i j : Nat) (hj : j < 32) : Int.tmod (shr .u32 ((lim x).getD i 0) (j : Int)) 2 = ((x / 2 ^ (32 * i + j) % 2 : Nat) : Int) := by
  unfold shr
  rw [lim_getD, Int.toNat_natCast, show min j (IntKind.u32).bits = j from Nat.min_eq_left (by simp [IntKind.bits]; omega)]
  have e : ((x / 4294967296 ^ i % 4294967296 : Nat) : Int) / 2 ^ j = ((x / 4294967296 ^ i % 4294967296 / 2 ^ j : Nat) : Int) := by
    rw [Int.natCast_ediv, Int.natCast_pow]; rfl
  rw [e, tmod_pos (Int.natCast_nonneg _)]
  have := limb_bit (x / 4294967296 ^ i) j hj
  rw [Nat.div_div_eq_div_mul, pow32, ← Nat.pow_add] at this
  rw [pow32]
  omega
end Go.Proofs.YtdgbeejhccogpaaDoor.F
