/- Naturals over plain data, by what they are. No condition. -/
import Derived.Test.YtjipfimhmfhmhaaDoorV10
namespace Go.Proofs.YtjipfimhmfhmhaaDoor.Z
open Go Go.RowKit Go.Proofs.YtjipfimhmfhmhaaDoor.E Go.Proofs.YtjipfimhmfhmhaaDoor.G Go.Proofs.YtjipfimhmfhmhaaDoor.K Go.Proofs.YtjipfimhmfhmhaaDoor.F Go.Proofs.YtjipfimhmfhmhaaDoor.M Go.Proofs.YtjipfimhmfhmhaaDoor.R
set_option linter.all false

/-- A natural's limbs. -/
def nl (n : Nat) : List FV := ii .u32 (lim n)
theorem toIs_nl (n : Nat) : toIs (nl n) = lim n := toIs_ii _ _
def Big : Nat := 4294967296 ^ 64
theorem big_of {n : Nat} (h : n < 340282366920938463463374607431768211456) : n < Big := Nat.lt_of_lt_of_le h (by decide)
def ofS (A : Lz) (args : List FV) (q : FV → FV → Prop) : Prop :=
  match args with
  | [.int .u64 x] => ∃ n : Nat, (x = n ∧ n < 18446744073709551616) ∧ q (.row (.int .u32) (A _ fun _ => nl n)) .dead
  | _ => False
theorem ofS_ok : SpecOk EV 41 ⟨false, ofS⟩ := of_ok.less fun xs q _ h => by
  unfold ofS at h
  split at h
  · obtain ⟨n, ⟨rfl, hn⟩, h⟩ := h
    obtain ⟨K, hK⟩ := of_ev n hn
    exact ⟨K, _, hK K (Nat.le_refl _), h⟩
  · exact h.elim
theorem rofS_ok : SpecOk EV 17 ⟨false, ofS⟩ := rOf_ok.less fun xs q _ h => by
  unfold ofS at h
  split at h
  · obtain ⟨n, ⟨rfl, hn⟩, h⟩ := h
    obtain ⟨K, hK⟩ := rof_ev n hn
    exact ⟨K, _, hK K (Nat.le_refl _), h⟩
  · exact h.elim
/-- A function of two naturals. -/
def nat2 (g : Lz → Nat → Nat → FV) (A : Lz) (args : List FV) (q : FV → FV → Prop) : Prop :=
  match args with
  | [.row (.int .u32) a, .row (.int .u32) b] => ∃ x y, (a = nl x ∧ b = nl y ∧ x < Big ∧ y < Big) ∧ q (g A x y) .dead
  | _ => False
theorem cmpS_ok : SpecOk EV 59 ⟨false, nat2 fun A x y => .int .i64 (A _ fun _ => cmpI x y)⟩ := cmp_ok.less fun xs q _ h => by
  unfold nat2 at h
  split at h
  · obtain ⟨x, y, ⟨rfl, rfl, hx, hy⟩, h⟩ := h
    obtain ⟨K, hK⟩ := cmp_ev x y hx hy
    exact ⟨K, _, by rw [toIs_nl, toIs_nl]; exact hK K (Nat.le_refl _), h⟩
  · exact h.elim
theorem mulS_ok : SpecOk EV 80 ⟨false, nat2 fun A x y => .tup [.row (.int .u32) (A _ fun _ => ii .u32 (capped (x * y)).1), .int .i64 (A _ fun _ => (capped (x * y)).2)]⟩ := mul_ok.less fun xs q _ h => by
  unfold nat2 at h
  split at h
  · obtain ⟨x, y, ⟨rfl, rfl, hx, hy⟩, h⟩ := h
    obtain ⟨K, hK⟩ := mul_ev x y hx hy
    exact ⟨K, _, by rw [toIs_nl, toIs_nl]; exact hK K (Nat.le_refl _), h⟩
  · exact h.elim
theorem gcdS_ok : SpecOk EV 86 ⟨false, nat2 fun A x y => .tup [.row (.int .u32) (A _ fun _ => nl (Nat.gcd x y)), .int .i64 0]⟩ := gcd_ok.less fun xs q _ h => by
  unfold nat2 at h
  split at h
  · obtain ⟨x, y, ⟨rfl, rfl, hx, hy⟩, h⟩ := h
    obtain ⟨K, hK⟩ := gcd_ev x y hx hy
    exact ⟨K, (lim (Nat.gcd x y), 0), by rw [toIs_nl, toIs_nl]; exact hK K (Nat.le_refl _), h⟩
  · exact h.elim
/-- By what is not 0. -/
def natd (g : Lz → Nat → Nat → FV) (A : Lz) (args : List FV) (q : FV → FV → Prop) : Prop :=
  match args with
  | [.row (.int .u32) a, .row (.int .u32) b] => ∃ x y, (a = nl x ∧ b = nl y ∧ x < Big ∧ y < Big ∧ y ≠ 0) ∧ q (g A x y) .dead
  | _ => False
theorem divS_ok : SpecOk EV 91 ⟨false, natd fun A x y => .tup [.row (.int .u32) (A _ fun _ => nl (x / y)), .row (.int .u32) (A _ fun _ => nl (x % y)), .int .i64 0]⟩ := div_ok.less fun xs q _ h => by
  unfold natd at h
  split at h
  · obtain ⟨x, y, ⟨rfl, rfl, hx, hy, h0⟩, h⟩ := h
    obtain ⟨K, hK⟩ := div_ev x y hx hy
    have hK := hK K (Nat.le_refl _)
    rw [if_neg h0] at hK
    exact ⟨K, (lim (x / y), lim (x % y), 0), by rw [toIs_nl, toIs_nl]; exact hK, h⟩
  · exact h.elim
theorem big_lim {n : Nat} (h : n < Big) : (lim n).length ≤ 64 := len_le.2 h
theorem rdivS_ok : SpecOk EV 43 ⟨false, natd fun A x y => .tup [.row (.int .u32) (A _ fun _ => nl (x / y)), .row (.int .u32) (A _ fun _ => nl (x % y))]⟩ := rdiv_ok.less fun xs q _ h => by
  unfold natd at h
  split at h
  · obtain ⟨x, y, ⟨rfl, rfl, hx, hy, h0⟩, h⟩ := h
    have := big_lim hx
    have := big_lim hy
    obtain ⟨K, hK⟩ := rdiv_ev x y (by omega) (by omega) (by omega)
    exact ⟨K, (lim (x / y), lim (x % y)), by rw [toIs_nl, toIs_nl]; exact hK K (Nat.le_refl _), h⟩
  · exact h.elim
theorem rgcdS_ok : SpecOk EV 42 ⟨false, nat2 fun A x y => .row (.int .u32) (A _ fun _ => nl (Nat.gcd x y))⟩ := rgcd_ok.less fun xs q _ h => by
  unfold nat2 at h
  split at h
  · obtain ⟨x, y, ⟨rfl, rfl, hx, hy⟩, h⟩ := h
    have := big_lim hx
    have := big_lim hy
    obtain ⟨K, hK⟩ := rgcd_ev x y (by omega) (by omega)
    exact ⟨K, _, by rw [toIs_nl, toIs_nl]; exact hK K (Nat.le_refl _), h⟩
  · exact h.elim
/-- Equal limbs. -/
def rsameS (A : Lz) (args : List FV) (q : FV → FV → Prop) : Prop :=
  match args with
  | [.row (.int .u32) a, .row (.int .u32) b] => (A _ fun _ => a.length < 9223372036854775807) ∧ q (.bool (A _ fun _ => decide (toIs a = toIs b))) .dead
  | _ => False
theorem rsameS_ok : SpecOk EV 51 ⟨false, rsameS⟩ := rsame_ok.less fun xs q _ h => by
  unfold rsameS at h
  split at h
  · rename_i a b _
    obtain ⟨hl, h⟩ := h
    have hl : a.length < 9223372036854775807 := hl
    obtain ⟨K, hK⟩ := same_ev (toIs a) (toIs b) (by rw [toIs_len]; exact hl)
    exact ⟨K, _, hK K (Nat.le_refl _), h⟩
  · exact h.elim
end Go.Proofs.YtjipfimhmfhmhaaDoor.Z
