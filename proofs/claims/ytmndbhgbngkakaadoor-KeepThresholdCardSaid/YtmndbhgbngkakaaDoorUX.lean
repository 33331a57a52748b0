/- Several texts of one claim in one file: YtmndbhgbngkakaaDoorU1, YtmndbhgbngkakaaDoorU2. No condition. -/
import Derived.Test.YtmndbhgbngkakaaDoorVA
section
/- Naturals over plain data, by what they are. No condition. -/
namespace Go.Proofs.YtmndbhgbngkakaaDoor.Z
open Go Go.RowKit Go.Proofs.YtmndbhgbngkakaaDoor.E Go.Proofs.YtmndbhgbngkakaaDoor.G Go.Proofs.YtmndbhgbngkakaaDoor.K Go.Proofs.YtmndbhgbngkakaaDoor.F Go.Proofs.YtmndbhgbngkakaaDoor.M Go.Proofs.YtmndbhgbngkakaaDoor.R
set_option linter.all false

/-- A natural's limbs. -/
def nl (n : Nat) : List FV := ii .u32 (lim n)
theorem toIs_nl (n : Nat) : toIs (nl n) = lim n := toIs_ii _ _
def Big : Nat := 4294967296 ^ 64
theorem big_of {n : Nat} (h : n < 340282366920938463463374607431768211456) : n < Big := Nat.lt_of_lt_of_le h (by decide)
def ofS (A : Lz) (args : List FV) (q : FV → FV → Prop) : Prop :=
  match args with
  | [.int .u64 x] => ∃ n : Nat, (x = n ∧ n < 18446744073709551616) ∧ q (.row (.int .u32) (A _ fun _ => nl n)) .dead
  | _ => False
theorem ofS_ok : SpecOk EV 37 ⟨false, ofS⟩ := of_ok.less fun xs q _ h => by
  unfold ofS at h
  split at h
  · obtain ⟨n, ⟨rfl, hn⟩, h⟩ := h
    obtain ⟨K, hK⟩ := of_ev n hn
    exact ⟨K, _, hK K (Nat.le_refl _), h⟩
  · exact h.elim
/-- A function of two naturals. -/
def nat2 (g : Lz → Nat → Nat → FV) (A : Lz) (args : List FV) (q : FV → FV → Prop) : Prop :=
  match args with
  | [.row (.int .u32) a, .row (.int .u32) b] => ∃ x y, (a = nl x ∧ b = nl y ∧ x < Big ∧ y < Big) ∧ q (g A x y) .dead
  | _ => False
theorem cmpS_ok : SpecOk EV 40 ⟨false, nat2 fun A x y => .int .i64 (A _ fun _ => cmpI x y)⟩ := cmp_ok.less fun xs q _ h => by
  unfold nat2 at h
  split at h
  · obtain ⟨x, y, ⟨rfl, rfl, hx, hy⟩, h⟩ := h
    obtain ⟨K, hK⟩ := cmp_ev x y hx hy
    exact ⟨K, _, by rw [toIs_nl, toIs_nl]; exact hK K (Nat.le_refl _), h⟩
  · exact h.elim
theorem mulS_ok : SpecOk EV 56 ⟨false, nat2 fun A x y => .tup [.row (.int .u32) (A _ fun _ => ii .u32 (capped (x * y)).1), .int .i64 (A _ fun _ => (capped (x * y)).2)]⟩ := mul_ok.less fun xs q _ h => by
  unfold nat2 at h
  split at h
  · obtain ⟨x, y, ⟨rfl, rfl, hx, hy⟩, h⟩ := h
    obtain ⟨K, hK⟩ := mul_ev x y hx hy
    exact ⟨K, _, by rw [toIs_nl, toIs_nl]; exact hK K (Nat.le_refl _), h⟩
  · exact h.elim
theorem gcdS_ok : SpecOk EV 58 ⟨false, nat2 fun A x y => .tup [.row (.int .u32) (A _ fun _ => nl (Nat.gcd x y)), .int .i64 0]⟩ := gcd_ok.less fun xs q _ h => by
  unfold nat2 at h
  split at h
  · obtain ⟨x, y, ⟨rfl, rfl, hx, hy⟩, h⟩ := h
    obtain ⟨K, hK⟩ := gcd_ev x y hx hy
    exact ⟨K, (lim (Nat.gcd x y), 0), by rw [toIs_nl, toIs_nl]; exact hK K (Nat.le_refl _), h⟩
  · exact h.elim
/-- By what is not 0. -/
def natd (g : Lz → Nat → Nat → FV) (A : Lz) (args : List FV) (q : FV → FV → Prop) : Prop :=
  match args with
  | [.row (.int .u32) a, .row (.int .u32) b] => ∃ x y, (a = nl x ∧ b = nl y ∧ x < Big ∧ y < Big ∧ y ≠ 0) ∧ q (g A x y) .dead
  | _ => False
theorem divS_ok : SpecOk EV 68 ⟨false, natd fun A x y => .tup [.row (.int .u32) (A _ fun _ => nl (x / y)), .row (.int .u32) (A _ fun _ => nl (x % y)), .int .i64 0]⟩ := div_ok.less fun xs q _ h => by
  unfold natd at h
  split at h
  · obtain ⟨x, y, ⟨rfl, rfl, hx, hy, h0⟩, h⟩ := h
    obtain ⟨K, hK⟩ := div_ev x y hx hy
    have hK := hK K (Nat.le_refl _)
    rw [if_neg h0] at hK
    exact ⟨K, (lim (x / y), lim (x % y), 0), by rw [toIs_nl, toIs_nl]; exact hK, h⟩
  · exact h.elim
theorem big_lim {n : Nat} (h : n < Big) : (lim n).length ≤ 64 := len_le.2 h
end Go.Proofs.YtmndbhgbngkakaaDoor.Z
end
section
/- Fractions over plain data, by what they are. No condition. -/
namespace Go.Proofs.YtmndbhgbngkakaaDoor.Z
open Go Go.RowKit Go.Proofs.YtmndbhgbngkakaaDoor.E Go.Proofs.YtmndbhgbngkakaaDoor.G Go.Proofs.YtmndbhgbngkakaaDoor.K Go.Proofs.YtmndbhgbngkakaaDoor.F Go.Proofs.YtmndbhgbngkakaaDoor.M Go.Proofs.YtmndbhgbngkakaaDoor.R
open Go.Proofs.YtmndbhgbngkakaaDoorW.PrintWords hiding rd
set_option linter.all false

set_option maxRecDepth 100000
set_option maxHeartbeats 4000000
theorem au {A : Lz} (hA : A = std) {α : Type} (t : Unit → α) : A α t = t () := by subst hA; rfl
def oneS (A : Lz) (args : List FV) (q : FV → FV → Prop) : Prop :=
  match args with
  | [] => q (.row (.int .u32) (A _ fun _ => nl 1)) .dead
  | _ => False
theorem one_ok' : SpecOk EV 59 ⟨false, oneS⟩ := by
  refine spec_go (.cons (f := 37) ofS_ok (.nil _)) (fn := Tryd.f59) rfl rfl Tryd.func59 rfl false [] _ ?_
  intro A hA args q h
  unfold oneS at h
  split at h
  · refine ⟨Nat.le_of_ble_eq_true rfl, ?_⟩
    cbv
    refine ⟨1, ⟨rfl, by decide⟩, ?_⟩
    cbv
    subst hA; exact h
  · exact h.elim
/-- A fraction. -/
def Rt (a b : List FV) (x y : Nat) : Prop := a = nl x ∧ b = nl y ∧ x < Big ∧ y < Big ∧ 0 < y ∧ Nat.gcd x y = 1
def rat1 (g : Lz → Nat → Nat → FV) (A : Lz) (args : List FV) (q : FV → FV → Prop) : Prop :=
  match args with
  | [.agg [.row (.int .u32) a, .row (.int .u32) b]] => ∃ x y, Rt a b x y ∧ q (g A x y) .dead
  | _ => False
theorem nl_len (n : Nat) : (nl n).length = (lim n).length := ii_len _ _
theorem nl_pos {n : Nat} (h : 0 < n) : 0 < (nl n).length := by
  rw [nl_len]
  rcases Nat.eq_zero_or_pos (lim n).length with e | e
  · have := (lim_len_zero n).1 e; omega
  · exact e
theorem big1 : 1 < Big := by decide
theorem ratRight_ok : SpecOk EV 41 ⟨false, rat1 fun A x y => .bool true⟩ := by
  refine spec_go (.cons (f := 58) gcdS_ok (.cons (f := 59) one_ok' (.cons (f := 40) cmpS_ok (.nil _)))) (fn := Tryd.f41) rfl rfl Tryd.func41 rfl false [] _ ?_
  intro A hA args q h
  unfold rat1 at h
  split at h
  · rename_i a b
    obtain ⟨x, y, ⟨ha, hb, hx, hy, h0, hg⟩, h⟩ := h
    refine ⟨Nat.le_of_ble_eq_true rfl, ?_⟩
    cbv
    refine ⟨x, y, ⟨ha, hb, hx, hy⟩, ?_⟩
    cbv
    have hl : 0 < (b.length : Int) := by rw [hb]; have := nl_pos h0; omega
    repeat' (first | (refine And.intro (by (try simp only [hA, shl, shr, std, nc, wd0, wd1, wd2, wd3]); first | done | exact ix ‹_› ‹_› | exact ix (Int.le_refl 0) ‹_› | decide | exact ap4 ‹_› | exact ap8 ‹_› | exact mk4 ‹_› ‹_› | exact mk8 ‹_› ‹_› | exact ix' ‹_› ‹_› | assumption | omega) ?_; cbv) | (split <;> rename_i hz <;> (try simp only [hA, shl, shr, std, nc, wd0, wd1, wd2, wd3] at hz) <;> first | contradiction | (exfalso; omega) | (exfalso; have hz2 := hz.symm.trans ‹_ = true›; cases hz2; done) | (exfalso; have hz2 := hz.symm.trans ‹_ = false›; cases hz2; done) | cbv))
    refine ⟨1, 1, ⟨by rw [au hA, hg], au hA _, big1, big1⟩, ?_⟩
    cbv
    subst hA; exact h
  · exact h.elim
def rat2 (g : Lz → Nat → Nat → Nat → Nat → FV) (A : Lz) (args : List FV) (q : FV → FV → Prop) : Prop :=
  match args with
  | [.agg [.row (.int .u32) a, .row (.int .u32) b], .agg [.row (.int .u32) c, .row (.int .u32) d]] => ∃ x y u v, (Rt a b x y ∧ Rt c d u v) ∧ q (g A x y u v) .dead
  | _ => False
theorem both_ok : SpecOk EV 38 ⟨false, rat2 fun A x y u v => .int .i64 0⟩ := by
  refine spec_go (.cons (f := 41) ratRight_ok (.nil _)) (fn := Tryd.f38) rfl rfl Tryd.func38 rfl false [] _ ?_
  intro A hA args q h
  unfold rat2 at h
  split at h
  · obtain ⟨x, y, u, v, ⟨h1, h2⟩, h⟩ := h
    refine ⟨Nat.le_of_ble_eq_true rfl, ?_⟩
    cbv
    refine ⟨x, y, h1, ?_⟩
    cbv
    repeat' (first | (refine And.intro (by (try simp only [hA, shl, shr, std, nc, wd0, wd1, wd2, wd3]); first | done | exact ix ‹_› ‹_› | exact ix (Int.le_refl 0) ‹_› | decide | exact ap4 ‹_› | exact ap8 ‹_› | exact mk4 ‹_› ‹_› | exact mk8 ‹_› ‹_› | exact ix' ‹_› ‹_› | assumption | omega) ?_; cbv) | (split <;> rename_i hz <;> (try simp only [hA, shl, shr, std, nc, wd0, wd1, wd2, wd3] at hz) <;> first | contradiction | (exfalso; omega) | (exfalso; have hz2 := hz.symm.trans ‹_ = true›; cases hz2; done) | (exfalso; have hz2 := hz.symm.trans ‹_ = false›; cases hz2; done) | cbv))
    refine ⟨u, v, h2, ?_⟩
    cbv
    repeat' (first | (refine And.intro (by (try simp only [hA, shl, shr, std, nc, wd0, wd1, wd2, wd3]); first | done | exact ix ‹_› ‹_› | exact ix (Int.le_refl 0) ‹_› | decide | exact ap4 ‹_› | exact ap8 ‹_› | exact mk4 ‹_› ‹_› | exact mk8 ‹_› ‹_› | exact ix' ‹_› ‹_› | assumption | omega) ?_; cbv) | (split <;> rename_i hz <;> (try simp only [hA, shl, shr, std, nc, wd0, wd1, wd2, wd3] at hz) <;> first | contradiction | (exfalso; omega) | (exfalso; have hz2 := hz.symm.trans ‹_ = true›; cases hz2; done) | (exfalso; have hz2 := hz.symm.trans ‹_ = false›; cases hz2; done) | cbv))
    subst hA; exact h
  · exact h.elim
def mxe (a b : Int) : Int := if a < b then b else a
def crossG (A : Lz) (x y u v : Nat) : FV := .tup [.row (.int .u32) (A _ fun _ => ii .u32 (capped (x * v)).1), .row (.int .u32) (A _ fun _ => ii .u32 (capped (u * y)).1), .int .i64 (A _ fun _ => mxe (capped (x * v)).2 (capped (u * y)).2)]
theorem cross_ok : SpecOk EV 39 ⟨false, rat2 crossG⟩ := by
  refine spec_go (.cons (f := 56) mulS_ok (.nil _)) (fn := Tryd.f39) rfl rfl Tryd.func39 rfl false [] _ ?_
  intro A hA args q h
  unfold rat2 at h
  split at h
  · obtain ⟨x, y, u, v, ⟨⟨ha, hb, hx, hy, _⟩, hc, hd, hu, hv, _⟩, h⟩ := h
    refine ⟨Nat.le_of_ble_eq_true rfl, ?_⟩
    cbv
    refine ⟨x, v, ⟨ha, hd, hx, hv⟩, ?_⟩
    cbv
    refine ⟨u, y, ⟨hc, hb, hu, hy⟩, ?_⟩
    cbv
    subst hA; exact h
  · exact h.elim
theorem capped_fit {n : Nat} (h : n < Big) : capped n = (lim n, 0) := if_pos h
theorem capped_not {n : Nat} (h : ¬ n < Big) : capped n = ([], 6) := if_neg h
def Fits (x y u v : Nat) : Prop := x * v < Big ∧ u * y < Big
open Classical in
noncomputable def cmpG (A : Lz) (x y u v : Nat) : FV := .tup [.int .i64 (A _ fun _ => if Fits x y u v then cmpI (x * v) (u * y) else 0), .int .i64 (A _ fun _ => if Fits x y u v then 0 else 6)]
theorem cross_e (x y u v : Nat) : (Fits x y u v ∧ mxe (capped (x * v)).2 (capped (u * y)).2 = 0) ∨ (¬ Fits x y u v ∧ mxe (capped (x * v)).2 (capped (u * y)).2 = 6) := by
  unfold Fits mxe
  by_cases h1 : x * v < Big <;> by_cases h2 : u * y < Big <;> simp [h1, h2, capped_fit, capped_not]
theorem ratCmp_ok : SpecOk EV 24 ⟨false, rat2 cmpG⟩ := by
  refine spec_go (.cons (f := 38) both_ok (.cons (f := 39) cross_ok (.cons (f := 40) cmpS_ok (.nil _)))) (fn := Tryd.f24) rfl rfl Tryd.func24 rfl false [] _ ?_
  intro A hA args q h
  unfold rat2 at h
  split at h
  · obtain ⟨x, y, u, v, h1, h⟩ := h
    refine ⟨Nat.le_of_ble_eq_true rfl, ?_⟩
    cbv
    refine ⟨x, y, u, v, h1, ?_⟩
    cbv
    repeat' (first | (refine And.intro (by (try simp only [hA, shl, shr, std, nc, wd0, wd1, wd2, wd3]); first | done | exact ix ‹_› ‹_› | exact ix (Int.le_refl 0) ‹_› | decide | exact ap4 ‹_› | exact ap8 ‹_› | exact mk4 ‹_› ‹_› | exact mk8 ‹_› ‹_› | exact ix' ‹_› ‹_› | assumption | omega) ?_; cbv) | (split <;> rename_i hz <;> (try simp only [hA, shl, shr, std, nc, wd0, wd1, wd2, wd3] at hz) <;> first | contradiction | (exfalso; omega) | (exfalso; have hz2 := hz.symm.trans ‹_ = true›; cases hz2; done) | (exfalso; have hz2 := hz.symm.trans ‹_ = false›; cases hz2; done) | cbv))
    refine ⟨x, y, u, v, h1, ?_⟩
    cbv
    have hc := cross_e x y u v
    unfold cmpG at h
    rcases hc with ⟨hf, he⟩ | ⟨hf, he⟩
    · simp only [hf, if_true] at h
      repeat' (first | (refine And.intro (by (try simp only [hA, shl, shr, std, nc, wd0, wd1, wd2, wd3]); first | done | exact ix ‹_› ‹_› | exact ix (Int.le_refl 0) ‹_› | decide | exact ap4 ‹_› | exact ap8 ‹_› | exact mk4 ‹_› ‹_› | exact mk8 ‹_› ‹_› | exact ix' ‹_› ‹_› | assumption | omega) ?_; cbv) | (split <;> rename_i hz <;> (try simp only [hA, shl, shr, std, nc, wd0, wd1, wd2, wd3] at hz) <;> first | contradiction | (exfalso; omega) | (exfalso; have hz2 := hz.symm.trans ‹_ = true›; cases hz2; done) | (exfalso; have hz2 := hz.symm.trans ‹_ = false›; cases hz2; done) | cbv))
      refine ⟨x * v, u * y, ⟨by rw [au hA, capped_fit hf.1]; rfl, by rw [au hA, capped_fit hf.2]; rfl, hf.1, hf.2⟩, ?_⟩
      cbv
      subst hA; exact h
    · simp only [hf, if_false] at h
      repeat' (first | (refine And.intro (by (try simp only [hA, shl, shr, std, nc, wd0, wd1, wd2, wd3]); first | done | exact ix ‹_› ‹_› | exact ix (Int.le_refl 0) ‹_› | decide | exact ap4 ‹_› | exact ap8 ‹_› | exact mk4 ‹_› ‹_› | exact mk8 ‹_› ‹_› | exact ix' ‹_› ‹_› | assumption | omega) ?_; cbv) | (split <;> rename_i hz <;> (try simp only [hA, shl, shr, std, nc, wd0, wd1, wd2, wd3] at hz) <;> first | contradiction | (exfalso; omega) | (exfalso; have hz2 := hz.symm.trans ‹_ = true›; cases hz2; done) | (exfalso; have hz2 := hz.symm.trans ‹_ = false›; cases hz2; done) | cbv))
      subst hA
      refine fin1 h ?_
      simp only [std, packF, he]
  · exact h.elim
/-- Two naturals, the second one not 0, by what goes in both. -/
def redG (A : Lz) (x y : Nat) : FV := .agg [.row (.int .u32) (A _ fun _ => nl (x / Nat.gcd x y)), .row (.int .u32) (A _ fun _ => nl (y / Nat.gcd x y))]
theorem gcd_big {x y : Nat} (hx : x < Big) (hy : y < Big) (h0 : y ≠ 0) : Nat.gcd x y < Big ∧ Nat.gcd x y ≠ 0 :=
  ⟨Nat.lt_of_le_of_lt (Nat.gcd_le_right x (Nat.pos_of_ne_zero h0)) hy, fun e => h0 (Nat.gcd_eq_zero_iff.1 e).2⟩
theorem reduce_ok : SpecOk EV 54 ⟨false, natd redG⟩ := by
  refine spec_go (.cons (f := 58) gcdS_ok (.cons (f := 68) divS_ok (.nil _))) (fn := Tryd.f54) rfl rfl Tryd.func54 rfl false [] _ ?_
  intro A hA args q h
  unfold natd at h
  split at h
  · obtain ⟨x, y, ⟨ha, hb, hx, hy, h0⟩, h⟩ := h
    obtain ⟨g1, g2⟩ := gcd_big hx hy h0
    refine ⟨Nat.le_of_ble_eq_true rfl, ?_⟩
    cbv
    refine ⟨x, y, ⟨ha, hb, hx, hy⟩, ?_⟩
    cbv
    refine ⟨x, Nat.gcd x y, ⟨ha, au hA _, hx, g1, g2⟩, ?_⟩
    cbv
    refine ⟨y, Nat.gcd x y, ⟨hb, au hA _, hy, g1, g2⟩, ?_⟩
    cbv
    subst hA; exact h
  · exact h.elim
def rightS (A : Lz) (args : List FV) (q : FV → FV → Prop) : Prop :=
  match args with
  | [.row (.int .u32) a] => (A _ fun _ => a.length < 9223372036854775807) ∧ q (.bool (A _ fun _ => rightB (toIs a))) .dead
  | _ => False
theorem rightS_ok : SpecOk EV 53 ⟨false, rightS⟩ := rt_ok.less fun xs q _ h => by
  unfold rightS at h
  split at h
  · rename_i a _
    obtain ⟨hl, h⟩ := h
    have hl : a.length < 9223372036854775807 := hl
    exact ⟨_, right_eq (toIs a) (by rw [toIs_len]; omega), h⟩
  · exact h.elim
theorem nl_lt {n : Nat} (h : n < Big) : (nl n).length < 9223372036854775807 := by rw [nl_len]; have := big_lim h; omega
theorem nl_right {n : Nat} (h : n < Big) : rightB (toIs (nl n)) = true := by rw [toIs_nl]; exact right_lim h
theorem make_ok : SpecOk EV 36 ⟨false, natd fun A x y => .tup [redG A x y, .int .i64 0]⟩ := by
  refine spec_go (.cons (f := 53) rightS_ok (.cons (f := 54) reduce_ok (.nil _))) (fn := Tryd.f36) rfl rfl Tryd.func36 rfl false [] _ ?_
  intro A hA args q h
  unfold natd at h
  split at h
  · rename_i a b
    obtain ⟨x, y, ⟨ha, hb, hx, hy, h0⟩, h⟩ := h
    have r1 : rightB (toIs a) = true := ha ▸ nl_right hx
    have r2 : rightB (toIs b) = true := hb ▸ nl_right hy
    have l1 : a.length < 9223372036854775807 := ha ▸ nl_lt hx
    have l2 : b.length < 9223372036854775807 := hb ▸ nl_lt hy
    have l3 : 0 < b.length := hb ▸ nl_pos (Nat.pos_of_ne_zero h0)
    refine ⟨Nat.le_of_ble_eq_true rfl, ?_⟩
    cbv
    repeat' (first | (refine And.intro (by (try simp only [hA, shl, shr, std, nc, wd0, wd1, wd2, wd3]); first | done | exact ix ‹_› ‹_› | exact ix (Int.le_refl 0) ‹_› | decide | exact ap4 ‹_› | exact ap8 ‹_› | exact mk4 ‹_› ‹_› | exact mk8 ‹_› ‹_› | exact ix' ‹_› ‹_› | assumption | omega) ?_; cbv) | (split <;> rename_i hz <;> (try simp only [hA, shl, shr, std, nc, wd0, wd1, wd2, wd3] at hz) <;> first | contradiction | (exfalso; omega) | (exfalso; have hz2 := hz.symm.trans ‹_ = true›; cases hz2; done) | (exfalso; have hz2 := hz.symm.trans ‹_ = false›; cases hz2; done) | cbv))
    refine ⟨x, y, ⟨ha, hb, hx, hy, h0⟩, ?_⟩
    cbv
    subst hA; exact h
  · exact h.elim
end Go.Proofs.YtmndbhgbngkakaaDoor.Z
end
