/- Several texts of one claim in one file: YtmndbhgbngkakaaDoorV1, YtmndbhgbngkakaaDoorV2, YtmndbhgbngkakaaDoorV3, YtmndbhgbngkakaaDoorV4, YtmndbhgbngkakaaDoorV8, YtmndbhgbngkakaaDoorV9. No condition. -/
import Derived.Test.YtmndbhgbngkakaaDoorZV
import Derived.Test.YtmndbhgbngkakaaDoorKAll
section
/- The program's naturals over plain data. No condition. -/
namespace Go.Proofs.YtmndbhgbngkakaaDoor.Z
open Go Go.RowKit Go.Proofs.YtmndbhgbngkakaaDoor.E Go.Proofs.YtmndbhgbngkakaaDoor.G Go.Proofs.YtmndbhgbngkakaaDoor.K Go.Proofs.YtmndbhgbngkakaaDoor.F
open Go.Proofs.YtmndbhgbngkakaaDoorW.PrintWords hiding rd
set_option linter.all false

set_option maxRecDepth 100000
set_option maxHeartbeats 4000000
/-- nat.order, of what its plain form tells. -/
def orderRun (A : Lz) (args : List FV) (q : FV → FV → Prop) : Prop :=
  match args with
  | [.row (.int .u32) a, .row (.int .u32) b] => ∃ k r, nat_order.f k (toIs a) (toIs b) = some r ∧ q (.int .i64 r) .dead
  | _ => False
theorem order_ok : SpecOk EV 57 ⟨false, orderRun⟩ := by
  refine spec_go (.nil _) (fn := Tryd.f57) rfl rfl Tryd.func57 rfl false [] _ ?_
  intro A hA args q h
  unfold orderRun at h
  split at h
  · rename_i a b
    obtain ⟨k, r, hf, h⟩ := h
    refine ⟨Nat.le_of_ble_eq_true rfl, ?_⟩
    unfold nat_order.f at hf
    simp only [toIs_len] at hf
    cbv
    split
    · rename_i h1
      cbv
      subst hA
      simp [std, nc] at h1
      rw [if_neg (by omega)] at hf
      cases hf
      refine fin_int h ?_
      simp only [std, i64w, nc, mn, mx]
      generalize wrap64 ((a.length : Int) - b.length) = z
      unfold wrap64
      by_cases g1 : z < 0
      · simp [g1]
      · simp only [g1, if_false]
        by_cases g2 : 1 < z
        · simp [g2]
        · simp only [g2, if_false]; omega
    · rename_i h1
      refine loop_intro hA [(0, .keep), (1, .keep), (5, .keep)] (fun n s => ∃ i, s = st [(0, .row (.int .u32) a), (1, .row (.int .u32) b), (5, .int .i64 i)] [] ∧ nat_order.l0 n (toIs a) (toIs b) i = some r) k ?_ ?_
      · cbv
        refine ⟨_, rfl, ?_⟩
        subst hA
        simp [std, nc] at h1
        rw [if_pos (by omega)] at hf
        simpa [std, i64w] using hf
      · rintro n s ⟨i, rfl, hi⟩
        cbv
        split
        · rename_i h2
          have h2' : 0 ≤ i := by subst hA; simpa [std, nc] using h2
          cases n with
          | zero => cases hi
          | succ n =>
            unfold nat_order.l0 at hi
            rw [if_pos h2', if_pos h2'] at hi
            simp only [toIs_len] at hi
            split at hi
            · rename_i h3
              split at hi
              · rename_i h4
                cbv
                refine ⟨by subst hA; exact ⟨h2', (Int.toNat_lt h2').2 h3⟩, by subst hA; exact ⟨h2', (Int.toNat_lt h2').2 h4⟩, ?_⟩
                split
                · rename_i h5
                  cbv
                  subst hA
                  simp [std, nc, nth_rd'] at h5
                  rw [if_pos h5] at hi
                  cases hi
                  exact h
                · rename_i h5
                  cbv
                  refine ⟨by subst hA; exact ⟨h2', (Int.toNat_lt h2').2 h3⟩, by subst hA; exact ⟨h2', (Int.toNat_lt h2').2 h4⟩, ?_⟩
                  split
                  · rename_i h6
                    cbv
                    subst hA
                    simp [std, nc, nth_rd'] at h5 h6
                    rw [if_neg (by omega), if_pos (by omega)] at hi
                    cases hi
                    exact h
                  · rename_i h6
                    cbv
                    refine ⟨n, Nat.lt_succ_self n, ?_⟩
                    cbv
                    refine ⟨_, rfl, ?_⟩
                    subst hA
                    simp [std, nc, nth_rd'] at h5 h6
                    rw [if_neg (by omega), if_neg (by omega)] at hi
                    simpa [std, nc, i64w] using hi
              · cases hi
            · cases hi
        · rename_i h2
          cbv
          subst hA
          simp [std, nc] at h2
          cases n with
          | zero => cases hi
          | succ n =>
            unfold nat_order.l0 at hi
            rw [if_neg (by omega)] at hi
            cases hi
            exact h
  · exact h.elim
end Go.Proofs.YtmndbhgbngkakaaDoor.Z
end
section
/- The program's naturals over plain data: trim, kept, of, at. No condition. -/
namespace Go.Proofs.YtmndbhgbngkakaaDoor.Z
open Go Go.RowKit Go.Proofs.YtmndbhgbngkakaaDoor.E Go.Proofs.YtmndbhgbngkakaaDoor.G Go.Proofs.YtmndbhgbngkakaaDoor.K Go.Proofs.YtmndbhgbngkakaaDoor.F
open Go.Proofs.YtmndbhgbngkakaaDoorW.PrintWords hiding rd
set_option linter.all false

set_option maxRecDepth 100000
set_option maxHeartbeats 4000000
def trimRun (A : Lz) (args : List FV) (q : FV → FV → Prop) : Prop :=
  match args with
  | [.row (.int .u32) a] => ∃ k r, nat_trim.f k (toIs a) = some r ∧ q (.row (.int .u32) (A _ fun _ => ii .u32 r)) .dead
  | _ => False
theorem trim_ok : SpecOk EV 55 ⟨false, trimRun⟩ := by
  refine .shaped 1 (spec_go (.nil _) (fn := Tryd.f55) rfl rfl Tryd.func55 rfl false [] _ ?_)
  rintro A hA args q ⟨hw, h⟩
  unfold trimRun at h
  split at h
  · rename_i a
    obtain ⟨k, r, hf, h⟩ := h
    simp only [std] at h
    have wa := wf_ii (hw _ (.head _))
    refine ⟨Nat.le_of_ble_eq_true rfl, ?_⟩
    unfold nat_trim.f at hf
    refine loop_intro hA [(0, .keep), (3, .keep)] (fun n s => ∃ i, s = st [(0, .row (.int .u32) a), (3, .int .i64 i)] [] ∧ nat_trim.l0 n (toIs a) i = some r) k ?_ ?_
    · cbv
      refine ⟨_, rfl, ?_⟩
      subst hA
      simpa [std, nc] using hf
    · rintro n s ⟨i, rfl, hi⟩
      cases n with
      | zero => cases hi
      | succ n =>
        unfold nat_trim.l0 at hi
        simp only [toIs_len] at hi
        repeat' split at hi
        all_goals try cases hi
        all_goals cbv
        all_goals repeat (first | (refine Exists.intro _ (Exists.intro _ (And.intro (by (try simp only [hA, shl, shr, std, nc, wd0, wd1, wd2, wd3]); assumption) ?_)); cbv) | (refine Exists.intro _ (And.intro (by (try simp only [hA, shl, shr, std, nc, wd0, wd1, wd2, wd3]); assumption) ?_); cbv) | (refine And.intro (by (try simp only [hA, shl, shr, std, nc, wd0, wd1, wd2, wd3]); first | done | exact ix ‹_› ‹_› | exact ix (Int.le_refl 0) ‹_› | decide | exact ap4 ‹_› | exact ap8 ‹_› | exact mk4 ‹_› ‹_› | exact mk8 ‹_› ‹_› | exact ix' ‹_› ‹_› | assumption | omega) ?_; cbv) | (split <;> rename_i hz <;> (try simp only [hA, shl, shr, std, nc, wd0, wd1, wd2, wd3] at hz) <;> first | contradiction | (exfalso; omega) | (exfalso; have hz2 := hz.symm.trans ‹_ = true›; cases hz2; done) | (exfalso; have hz2 := hz.symm.trans ‹_ = false›; cases hz2; done) | cbv))
        all_goals first
          | (refine ⟨n, Nat.lt_succ_self n, ?_⟩; cbv; refine ⟨_, rfl, ?_⟩; simpa only [hA, shl, shr, std, nc, wd0, wd1, wd2, wd3] using hi)
          | (refine fin_row h ?_; simp only [hA, shl, shr, std, nc, wd0, wd1, wd2, wd3]; conv => lhs; rw [wa]
             exact take_ii _ _ _)
  · exact h.elim
end Go.Proofs.YtmndbhgbngkakaaDoor.Z
end
section
/- The program's naturals over plain data. No condition. -/
namespace Go.Proofs.YtmndbhgbngkakaaDoor.Z
open Go Go.RowKit Go.Proofs.YtmndbhgbngkakaaDoor.E Go.Proofs.YtmndbhgbngkakaaDoor.G Go.Proofs.YtmndbhgbngkakaaDoor.K Go.Proofs.YtmndbhgbngkakaaDoor.F
open Go.Proofs.YtmndbhgbngkakaaDoorW.PrintWords hiding rd
set_option linter.all false

set_option maxRecDepth 100000
set_option maxHeartbeats 4000000
def atRun (A : Lz) (args : List FV) (q : FV → FV → Prop) : Prop :=
  match args with
  | [.row (.int .u32) a, .int .i64 i] => ∃ r, nat_at.f (toIs a) i = some r ∧ q (.int .u64 r) .dead
  | _ => False
theorem at_ok : SpecOk EV 93 ⟨false, atRun⟩ := by
  refine .shaped 4 (spec_go (.nil _) (fn := Tryd.f93) rfl rfl Tryd.func93 rfl false [] _ ?_)
  rintro A hA args q ⟨hw, h⟩
  unfold atRun at h
  split at h
  · rename_i a i
    obtain ⟨r, hf, h⟩ := h
    try simp only [std] at h
    have wa := wf_ii (hw _ (.head _))
    refine ⟨Nat.le_of_ble_eq_true rfl, ?_⟩
    unfold nat_at.f at hf
    try simp only [toIs_len] at hf
    repeat' first | split at hf | (rw [Option.bind_eq_some_iff] at hf; obtain ⟨_, hy, hf⟩ := hf; try (cases hy))
    all_goals try cases hf
    all_goals try simp only [Bool.not_eq_true', Bool.not_eq_true, Bool.not_eq_false] at *
    all_goals cbv
    all_goals repeat (first | (refine Exists.intro _ (Exists.intro _ (And.intro (by (try simp only [hA, shl, shr, std, nc, wd0, wd1, wd2, wd3]); assumption) ?_)); cbv) | (refine Exists.intro _ (And.intro (by (try simp only [hA, shl, shr, std, nc, wd0, wd1, wd2, wd3]); assumption) ?_); cbv) | (refine And.intro (by (try simp only [hA, shl, shr, std, nc, wd0, wd1, wd2, wd3]); first | done | exact ix ‹_› ‹_› | exact ix (Int.le_refl 0) ‹_› | decide | exact ap4 ‹_› | exact ap8 ‹_› | exact mk4 ‹_› ‹_› | exact mk8 ‹_› ‹_› | exact ix' ‹_› ‹_› | assumption | omega) ?_; cbv) | (split <;> rename_i hz <;> (try simp only [hA, shl, shr, std, nc, wd0, wd1, wd2, wd3] at hz) <;> first | contradiction | (exfalso; omega) | (exfalso; have hz2 := hz.symm.trans ‹_ = true›; cases hz2; done) | (exfalso; have hz2 := hz.symm.trans ‹_ = false›; cases hz2; done) | cbv))
    all_goals (refine fin_int h ?_; (try simp only [hA, shl, shr, std, nc, wd0, wd1, wd2, wd3]))
  · exact h.elim
def ofRun (A : Lz) (args : List FV) (q : FV → FV → Prop) : Prop :=
  match args with
  | [.int .u64 x] => ∃ k r, nat_Of.f k x = some r ∧ q (.row (.int .u32) (A _ fun _ => ii .u32 r)) .dead
  | _ => False
theorem of_ok : SpecOk EV 37 ⟨false, ofRun⟩ := by
  refine .shaped 4 (spec_go (.cons (f := 55) trim_ok (.nil _)) (fn := Tryd.f37) rfl rfl Tryd.func37 rfl false [] _ ?_)
  rintro A hA args q ⟨hw, h⟩
  unfold ofRun at h
  split at h
  · rename_i x
    obtain ⟨k, r, hf, h⟩ := h
    try simp only [std] at h
    refine ⟨Nat.le_of_ble_eq_true rfl, ?_⟩
    unfold nat_Of.f at hf
    try simp only [toIs_len] at hf
    repeat' first | split at hf | (rw [Option.bind_eq_some_iff] at hf; obtain ⟨_, hy, hf⟩ := hf; try (cases hy))
    all_goals try cases hf
    all_goals try simp only [Bool.not_eq_true', Bool.not_eq_true, Bool.not_eq_false] at *
    all_goals cbv
    all_goals repeat (first | (refine Exists.intro _ (Exists.intro _ (And.intro (by (try simp only [hA, shl, shr, std, nc, wd0, wd1, wd2, wd3]); assumption) ?_)); cbv) | (refine Exists.intro _ (And.intro (by (try simp only [hA, shl, shr, std, nc, wd0, wd1, wd2, wd3]); assumption) ?_); cbv) | (refine And.intro (by (try simp only [hA, shl, shr, std, nc, wd0, wd1, wd2, wd3]); first | done | exact ix ‹_› ‹_› | exact ix (Int.le_refl 0) ‹_› | decide | exact ap4 ‹_› | exact ap8 ‹_› | exact mk4 ‹_› ‹_› | exact mk8 ‹_› ‹_› | exact ix' ‹_› ‹_› | assumption | omega) ?_; cbv) | (split <;> rename_i hz <;> (try simp only [hA, shl, shr, std, nc, wd0, wd1, wd2, wd3] at hz) <;> first | contradiction | (exfalso; omega) | (exfalso; have hz2 := hz.symm.trans ‹_ = true›; cases hz2; done) | (exfalso; have hz2 := hz.symm.trans ‹_ = false›; cases hz2; done) | cbv))
    all_goals (refine fin1 h ?_; (try simp only [hA, shl, shr, std, nc, wd0, wd1, wd2, wd3]); first | done | rfl)
  · exact h.elim
def shortRun (A : Lz) (args : List FV) (q : FV → FV → Prop) : Prop :=
  match args with
  | [.row (.int .u32) a, .int .u32 b] => ∃ k r, nat_short.f k (toIs a) b = some r ∧ q (.tup [.row (.int .u32) (A _ fun _ => ii .u32 r.1), .int .u32 r.2]) .dead
  | _ => False
theorem short_ok : SpecOk EV 60 ⟨false, shortRun⟩ := by
  refine .shaped 4 (spec_go (.cons (f := 55) trim_ok (.nil _)) (fn := Tryd.f60) rfl rfl Tryd.func60 rfl false [] _ ?_)
  rintro A hA args q ⟨hw, h⟩
  unfold shortRun at h
  split at h
  · rename_i a b
    obtain ⟨k, r, hf, h⟩ := h
    try simp only [std] at h
    have wa := wf_ii (hw _ (.head _))
    refine ⟨Nat.le_of_ble_eq_true rfl, ?_⟩
    unfold nat_short.f at hf
    try simp only [toIs_len] at hf
    repeat' first | split at hf | (rw [Option.bind_eq_some_iff] at hf; obtain ⟨_, hy, hf⟩ := hf; try (cases hy))
    all_goals try cases hf
    all_goals try simp only [Bool.not_eq_true', Bool.not_eq_true, Bool.not_eq_false] at *
    all_goals cbv
    all_goals repeat (first | (refine Exists.intro _ (Exists.intro _ (And.intro (by (try simp only [hA, shl, shr, std, nc, wd0, wd1, wd2, wd3]); assumption) ?_)); cbv) | (refine Exists.intro _ (And.intro (by (try simp only [hA, shl, shr, std, nc, wd0, wd1, wd2, wd3]); assumption) ?_); cbv) | (refine And.intro (by (try simp only [hA, shl, shr, std, nc, wd0, wd1, wd2, wd3]); first | done | exact ix ‹_› ‹_› | exact ix (Int.le_refl 0) ‹_› | decide | exact ap4 ‹_› | exact ap8 ‹_› | exact mk4 ‹_› ‹_› | exact mk8 ‹_› ‹_› | exact ix' ‹_› ‹_› | assumption | omega) ?_; cbv) | (split <;> rename_i hz <;> (try simp only [hA, shl, shr, std, nc, wd0, wd1, wd2, wd3] at hz) <;> first | contradiction | (exfalso; omega) | (exfalso; have hz2 := hz.symm.trans ‹_ = true›; cases hz2; done) | (exfalso; have hz2 := hz.symm.trans ‹_ = false›; cases hz2; done) | cbv))
    all_goals try (refine fin1 h ?_; (try simp only [hA, shl, shr, std, nc, wd0, wd1, wd2, wd3]); first | done | rfl; done)
    · refine (loop_intro hA [(0, .keep), (1, .keep), (6, .own (.int .u32)), (7, .keep), (8, .keep)] (fun n s => ∃ o y i, s = st [(0, .row (.int .u32) a), (1, .int .u32 b), (6, .own 6 0), (7, .int .u64 y), (8, .int .i64 i)] [(6, ⟨0, true, .arr (.int .u32) true o⟩)] ∧ o = ii .u32 (toIs o) ∧ n ≤ k ∧ nat_short.l0 n (toIs a) b (toIs o) y i = some r) k ?_ ?_)
      · cbv
        (iterate 3 apply Exists.intro); refine ⟨?_, ?_⟩; cbv; refine ⟨by ((try simp only [hA, nE, std, zE32, zE64, nc]); first | done | exact set_wf ‹_› _ _ | exact repl_ii _ _ _ | exact app_wf ‹_› _ | exact take_wf ‹_› _ | assumption | exact ii_wf _ _ | exact take_wf (ii_wf _ _) _ | rfl), ?_⟩
        refine ⟨Nat.le_refl _, ?_⟩
        simpa only [hA, shl, shr, std, nc, wd0, wd1, wd2, wd3] using hf
      · rintro n0 s ⟨o, y, i, rfl, wo, hle0, hi⟩
        cases n0 with
        | zero => cases hi
        | succ n0 =>
          unfold nat_short.l0 at hi
          try simp only [toIs_len] at hi
          repeat' first | split at hi | (rw [Option.bind_eq_some_iff] at hi; obtain ⟨_, hy, hi⟩ := hi; try (cases hy))
          all_goals try cases hi
          all_goals try simp only [Bool.not_eq_true', Bool.not_eq_true, Bool.not_eq_false] at *
          all_goals cbv
          all_goals repeat (first | (refine Exists.intro _ (Exists.intro _ (And.intro (by (try simp only [hA, shl, shr, std, nc, wd0, wd1, wd2, wd3]); assumption) ?_)); cbv) | (refine Exists.intro _ (And.intro (by (try simp only [hA, shl, shr, std, nc, wd0, wd1, wd2, wd3]); assumption) ?_); cbv) | (refine And.intro (by (try simp only [hA, shl, shr, std, nc, wd0, wd1, wd2, wd3]); first | done | exact ix ‹_› ‹_› | exact ix (Int.le_refl 0) ‹_› | decide | exact ap4 ‹_› | exact ap8 ‹_› | exact mk4 ‹_› ‹_› | exact mk8 ‹_› ‹_› | exact ix' ‹_› ‹_› | assumption | omega) ?_; cbv) | (split <;> rename_i hz <;> (try simp only [hA, shl, shr, std, nc, wd0, wd1, wd2, wd3] at hz) <;> first | contradiction | (exfalso; omega) | (exfalso; have hz2 := hz.symm.trans ‹_ = true›; cases hz2; done) | (exfalso; have hz2 := hz.symm.trans ‹_ = false›; cases hz2; done) | cbv))
          all_goals try (refine ⟨n0, by omega, ?_⟩; cbv; (iterate 3 apply Exists.intro); refine ⟨?_, ?_⟩; cbv; refine ⟨by ((try simp only [hA, nE, std, zE32, zE64, nc]); first | done | exact set_wf ‹_› _ _ | exact repl_ii _ _ _ | exact app_wf ‹_› _ | exact take_wf ‹_› _ | assumption | exact ii_wf _ _ | exact take_wf (ii_wf _ _) _ | rfl), ?_⟩; refine ⟨by omega, ?_⟩; simpa only [hA, shl, shr, std, nc, wd0, wd1, wd2, wd3] using hi)
          all_goals try (refine fin1 h ?_; (try simp only [hA, shl, shr, std, nc, wd0, wd1, wd2, wd3]); first | done | rfl; done)
  · exact h.elim
def keptRun (A : Lz) (args : List FV) (q : FV → FV → Prop) : Prop :=
  match args with
  | [.row (.int .u32) a] => ∃ r, nat_kept.f (toIs a) = some r ∧ q (.tup [.row (.int .u32) (A _ fun _ => ii .u32 r.1), .int .i64 r.2]) .dead
  | _ => False
theorem kept_ok : SpecOk EV 69 ⟨false, keptRun⟩ := by
  refine .fit [.row (.int .u32)] (spec_go (.nil _) (fn := Tryd.f69) rfl rfl Tryd.func69 rfl false [] _ ?_)
  rintro A hA args q0 ⟨hw, q, hq, h⟩
  unfold keptRun at h
  split at h
  · rename_i a
    obtain ⟨r, hf, h⟩ := h
    try simp only [std] at h
    have wa := wf_ii (hw _ (.head _))
    refine ⟨Nat.le_of_ble_eq_true rfl, ?_⟩
    unfold nat_kept.f at hf
    try simp only [toIs_len] at hf
    repeat' first | split at hf | (rw [Option.bind_eq_some_iff] at hf; obtain ⟨_, hy, hf⟩ := hf; try (cases hy))
    all_goals try cases hf
    all_goals try simp only [Bool.not_eq_true', Bool.not_eq_true, Bool.not_eq_false] at *
    all_goals cbv
    all_goals repeat (first | (refine Exists.intro _ (Exists.intro _ (And.intro (by (try simp only [hA, shl, shr, std, nc, wd0, wd1, wd2, wd3]); assumption) ?_)); cbv) | (refine Exists.intro _ (And.intro (by (try simp only [hA, shl, shr, std, nc, wd0, wd1, wd2, wd3]); assumption) ?_); cbv) | (refine And.intro (by (try simp only [hA, shl, shr, std, nc, wd0, wd1, wd2, wd3]); first | done | exact ix ‹_› ‹_› | exact ix (Int.le_refl 0) ‹_› | decide | exact ap4 ‹_› | exact ap8 ‹_› | exact mk4 ‹_› ‹_› | exact mk8 ‹_› ‹_› | exact ix' ‹_› ‹_› | assumption | omega) ?_; cbv) | (split <;> rename_i hz <;> (try simp only [hA, shl, shr, std, nc, wd0, wd1, wd2, wd3] at hz) <;> first | contradiction | (exfalso; omega) | (exfalso; have hz2 := hz.symm.trans ‹_ = true›; cases hz2; done) | (exfalso; have hz2 := hz.symm.trans ‹_ = false›; cases hz2; done) | cbv))
    all_goals (refine hq _ _ ?_; refine fin1 h ?_; first | rfl | exact congrArg (fun l => FV.tup [.row (.int .u32) l, .int .i64 0]) wa)
  · exact h.elim
def shiftRun (A : Lz) (args : List FV) (q : FV → FV → Prop) : Prop :=
  match args with
  | [.row (.int .u32) a, .int .i64 u] => ∃ k r, nat_shift.f k (toIs a) u = some r ∧ q (.new (.int .u32) (A _ fun _ => ii .u32 r)) .dead
  | _ => False
theorem shift_ok : SpecOk EV 85 ⟨false, shiftRun⟩ := by
  refine .shaped 4 (spec_go (.nil _) (fn := Tryd.f85) rfl rfl Tryd.func85 rfl false [true] _ ?_)
  rintro A hA args q ⟨hw, h⟩
  unfold shiftRun at h
  split at h
  · rename_i a u
    obtain ⟨k, r, hf, h⟩ := h
    try simp only [std] at h
    have wa := wf_ii (hw _ (.head _))
    refine ⟨Nat.le_of_ble_eq_true rfl, ?_⟩
    unfold nat_shift.f at hf
    try simp only [toIs_len] at hf
    repeat' first | split at hf | (rw [Option.bind_eq_some_iff] at hf; obtain ⟨_, hy, hf⟩ := hf; try (cases hy))
    all_goals try cases hf
    all_goals try simp only [Bool.not_eq_true', Bool.not_eq_true, Bool.not_eq_false] at *
    all_goals cbv
    all_goals repeat (first | (refine Exists.intro _ (Exists.intro _ (And.intro (by (try simp only [hA, shl, shr, std, nc, wd0, wd1, wd2, wd3]); assumption) ?_)); cbv) | (refine Exists.intro _ (And.intro (by (try simp only [hA, shl, shr, std, nc, wd0, wd1, wd2, wd3]); assumption) ?_); cbv) | (refine And.intro (by (try simp only [hA, shl, shr, std, nc, wd0, wd1, wd2, wd3]); first | done | exact ix ‹_› ‹_› | exact ix (Int.le_refl 0) ‹_› | decide | exact ap4 ‹_› | exact ap8 ‹_› | exact mk4 ‹_› ‹_› | exact mk8 ‹_› ‹_› | exact ix' ‹_› ‹_› | assumption | omega) ?_; cbv) | (split <;> rename_i hz <;> (try simp only [hA, shl, shr, std, nc, wd0, wd1, wd2, wd3] at hz) <;> first | contradiction | (exfalso; omega) | (exfalso; have hz2 := hz.symm.trans ‹_ = true›; cases hz2; done) | (exfalso; have hz2 := hz.symm.trans ‹_ = false›; cases hz2; done) | cbv))
    all_goals try (refine fin_new h ?_; (try simp only [hA, shl, shr, std, nc, wd0, wd1, wd2, wd3]); first | rfl | exact set_ii' ‹_› _ _; done)
    · refine (loop_intro hA [(0, .keep), (1, .keep), (5, .own (.int .u32)), (6, .keep), (13, .keep), (14, .keep), (15, .keep)] (fun n s => ∃ o y e i, s = st [(0, .row (.int .u32) a), (1, .int .i64 u), (5, .own 5 0), (6, .int .u32 y), (13, .row (.int .u32) a), (14, .int .i64 e), (15, .int .i64 i)] [(5, ⟨0, true, .arr (.int .u32) true o⟩)] ∧ o = ii .u32 (toIs o) ∧ n ≤ k ∧ nat_shift.l0 n (toIs a) u (toIs o) y (toIs a) e i = some r) k ?_ ?_)
      · cbv
        (iterate 4 apply Exists.intro); refine ⟨?_, ?_⟩; cbv; refine ⟨by ((try simp only [hA, nE, std, zE32, zE64, nc]); first | done | exact set_wf ‹_› _ _ | exact repl_ii _ _ _ | exact app_wf ‹_› _ | exact take_wf ‹_› _ | assumption | exact ii_wf _ _ | exact take_wf (ii_wf _ _) _ | rfl), ?_⟩
        refine ⟨Nat.le_refl _, ?_⟩
        simpa only [hA, shl, shr, std, nc, wd0, wd1, wd2, wd3] using hf
      · rintro n0 s ⟨o, y, e, i, rfl, wo, hle0, hi⟩
        cases n0 with
        | zero => cases hi
        | succ n0 =>
          unfold nat_shift.l0 at hi
          try simp only [toIs_len] at hi
          repeat' first | split at hi | (rw [Option.bind_eq_some_iff] at hi; obtain ⟨_, hy, hi⟩ := hi; try (cases hy))
          all_goals try cases hi
          all_goals try simp only [Bool.not_eq_true', Bool.not_eq_true, Bool.not_eq_false] at *
          all_goals cbv
          all_goals repeat (first | (refine Exists.intro _ (Exists.intro _ (And.intro (by (try simp only [hA, shl, shr, std, nc, wd0, wd1, wd2, wd3]); assumption) ?_)); cbv) | (refine Exists.intro _ (And.intro (by (try simp only [hA, shl, shr, std, nc, wd0, wd1, wd2, wd3]); assumption) ?_); cbv) | (refine And.intro (by (try simp only [hA, shl, shr, std, nc, wd0, wd1, wd2, wd3]); first | done | exact ix ‹_› ‹_› | exact ix (Int.le_refl 0) ‹_› | decide | exact ap4 ‹_› | exact ap8 ‹_› | exact mk4 ‹_› ‹_› | exact mk8 ‹_› ‹_› | exact ix' ‹_› ‹_› | assumption | omega) ?_; cbv) | (split <;> rename_i hz <;> (try simp only [hA, shl, shr, std, nc, wd0, wd1, wd2, wd3] at hz) <;> first | contradiction | (exfalso; omega) | (exfalso; have hz2 := hz.symm.trans ‹_ = true›; cases hz2; done) | (exfalso; have hz2 := hz.symm.trans ‹_ = false›; cases hz2; done) | cbv))
          all_goals try (refine ⟨n0, by omega, ?_⟩; cbv; (iterate 4 apply Exists.intro); refine ⟨?_, ?_⟩; cbv; refine ⟨by ((try simp only [hA, nE, std, zE32, zE64, nc]); first | done | exact set_wf ‹_› _ _ | exact repl_ii _ _ _ | exact app_wf ‹_› _ | exact take_wf ‹_› _ | assumption | exact ii_wf _ _ | exact take_wf (ii_wf _ _) _ | rfl), ?_⟩; refine ⟨by omega, ?_⟩; simpa only [hA, shl, shr, std, nc, wd0, wd1, wd2, wd3] using hi)
          all_goals try (refine fin_new h ?_; (try simp only [hA, shl, shr, std, nc, wd0, wd1, wd2, wd3]); first | rfl | exact set_ii' ‹_› _ _; done)
  · exact h.elim
def unshiftRun (A : Lz) (args : List FV) (q : FV → FV → Prop) : Prop :=
  match args with
  | [.row (.int .u32) a, .int .i64 u] => ∃ k r, nat_unshift.f k (toIs a) u = some r ∧ q (.row (.int .u32) (A _ fun _ => ii .u32 r)) .dead
  | _ => False
theorem unshift_ok : SpecOk EV 89 ⟨false, unshiftRun⟩ := by
  refine .shaped 4 (spec_go (.cons (f := 93) at_ok (.nil _)) (fn := Tryd.f89) rfl rfl Tryd.func89 rfl false [] _ ?_)
  rintro A hA args q ⟨hw, h⟩
  unfold unshiftRun at h
  split at h
  · rename_i a u
    obtain ⟨k, r, hf, h⟩ := h
    try simp only [std] at h
    have wa := wf_ii (hw _ (.head _))
    refine ⟨Nat.le_of_ble_eq_true rfl, ?_⟩
    unfold nat_unshift.f at hf
    try simp only [toIs_len] at hf
    repeat' first | split at hf | (rw [Option.bind_eq_some_iff] at hf; obtain ⟨_, hy, hf⟩ := hf; try (cases hy))
    all_goals try cases hf
    all_goals try simp only [Bool.not_eq_true', Bool.not_eq_true, Bool.not_eq_false] at *
    all_goals cbv
    all_goals repeat (first | (refine Exists.intro _ (Exists.intro _ (And.intro (by (try simp only [hA, shl, shr, std, nc, wd0, wd1, wd2, wd3]); assumption) ?_)); cbv) | (refine Exists.intro _ (And.intro (by (try simp only [hA, shl, shr, std, nc, wd0, wd1, wd2, wd3]); assumption) ?_); cbv) | (refine And.intro (by (try simp only [hA, shl, shr, std, nc, wd0, wd1, wd2, wd3]); first | done | exact ix ‹_› ‹_› | exact ix (Int.le_refl 0) ‹_› | decide | exact ap4 ‹_› | exact ap8 ‹_› | exact mk4 ‹_› ‹_› | exact mk8 ‹_› ‹_› | exact ix' ‹_› ‹_› | assumption | omega) ?_; cbv) | (split <;> rename_i hz <;> (try simp only [hA, shl, shr, std, nc, wd0, wd1, wd2, wd3] at hz) <;> first | contradiction | (exfalso; omega) | (exfalso; have hz2 := hz.symm.trans ‹_ = true›; cases hz2; done) | (exfalso; have hz2 := hz.symm.trans ‹_ = false›; cases hz2; done) | cbv))
    all_goals try (refine fin_row h ?_; (try simp only [hA, shl, shr, std, nc, wd0, wd1, wd2, wd3]); first | rfl | assumption; done)
    · refine (loop_intro hA [(0, .keep), (1, .keep), (5, .own (.int .u32)), (11, .keep), (12, .keep), (13, .keep)] (fun n s => ∃ o e i, s = st [(0, .row (.int .u32) a), (1, .int .i64 u), (5, .own 5 0), (11, .row (.int .u32) a), (12, .int .i64 e), (13, .int .i64 i)] [(5, ⟨0, true, .arr (.int .u32) true o⟩)] ∧ o = ii .u32 (toIs o) ∧ n ≤ k ∧ nat_unshift.l0 n (toIs a) u (toIs o) (toIs a) e i = some r) k ?_ ?_)
      · cbv
        (iterate 3 apply Exists.intro); refine ⟨?_, ?_⟩; cbv; refine ⟨by ((try simp only [hA, nE, std, zE32, zE64, nc]); first | done | exact set_wf ‹_› _ _ | exact repl_ii _ _ _ | exact app_wf ‹_› _ | exact take_wf ‹_› _ | assumption | exact ii_wf _ _ | exact take_wf (ii_wf _ _) _ | rfl), ?_⟩
        refine ⟨Nat.le_refl _, ?_⟩
        simpa only [hA, shl, shr, std, nc, wd0, wd1, wd2, wd3] using hf
      · rintro n0 s ⟨o, e, i, rfl, wo, hle0, hi⟩
        cases n0 with
        | zero => cases hi
        | succ n0 =>
          unfold nat_unshift.l0 at hi
          try simp only [toIs_len] at hi
          repeat' first | split at hi | (rw [Option.bind_eq_some_iff] at hi; obtain ⟨_, hy, hi⟩ := hi; try (cases hy))
          all_goals try cases hi
          all_goals try simp only [Bool.not_eq_true', Bool.not_eq_true, Bool.not_eq_false] at *
          all_goals cbv
          all_goals repeat (first | (refine Exists.intro _ (Exists.intro _ (And.intro (by (try simp only [hA, shl, shr, std, nc, wd0, wd1, wd2, wd3]); assumption) ?_)); cbv) | (refine Exists.intro _ (And.intro (by (try simp only [hA, shl, shr, std, nc, wd0, wd1, wd2, wd3]); assumption) ?_); cbv) | (refine And.intro (by (try simp only [hA, shl, shr, std, nc, wd0, wd1, wd2, wd3]); first | done | exact ix ‹_› ‹_› | exact ix (Int.le_refl 0) ‹_› | decide | exact ap4 ‹_› | exact ap8 ‹_› | exact mk4 ‹_› ‹_› | exact mk8 ‹_› ‹_› | exact ix' ‹_› ‹_› | assumption | omega) ?_; cbv) | (split <;> rename_i hz <;> (try simp only [hA, shl, shr, std, nc, wd0, wd1, wd2, wd3] at hz) <;> first | contradiction | (exfalso; omega) | (exfalso; have hz2 := hz.symm.trans ‹_ = true›; cases hz2; done) | (exfalso; have hz2 := hz.symm.trans ‹_ = false›; cases hz2; done) | cbv))
          all_goals try (refine ⟨n0, by omega, ?_⟩; cbv; (iterate 3 apply Exists.intro); refine ⟨?_, ?_⟩; cbv; refine ⟨by ((try simp only [hA, nE, std, zE32, zE64, nc]); first | done | exact set_wf ‹_› _ _ | exact repl_ii _ _ _ | exact app_wf ‹_› _ | exact take_wf ‹_› _ | assumption | exact ii_wf _ _ | exact take_wf (ii_wf _ _) _ | rfl), ?_⟩; refine ⟨by omega, ?_⟩; simpa only [hA, shl, shr, std, nc, wd0, wd1, wd2, wd3] using hi)
          all_goals try (refine fin_row h ?_; (try simp only [hA, shl, shr, std, nc, wd0, wd1, wd2, wd3]); first | rfl | assumption; done)
  · exact h.elim
def guessRun (A : Lz) (args : List FV) (q : FV → FV → Prop) : Prop :=
  match args with
  | [.row (.int .u32) a, .row (.int .u32) b, .int .i64 p] => ∃ k r, nat_guess.f k (toIs a) (toIs b) p = some r ∧ q (.int .u64 r) .dead
  | _ => False
theorem guess_ok : SpecOk EV 86 ⟨false, guessRun⟩ := by
  refine .shaped 4 (spec_go (.nil _) (fn := Tryd.f86) rfl rfl Tryd.func86 rfl false [] _ ?_)
  rintro A hA args q ⟨hw, h⟩
  unfold guessRun at h
  split at h
  · rename_i a b p
    obtain ⟨k, r, hf, h⟩ := h
    try simp only [std] at h
    have wa := wf_ii (hw _ (.head _))
    have wb := wf_ii (hw _ (.tail _ (.head _)))
    refine ⟨Nat.le_of_ble_eq_true rfl, ?_⟩
    unfold nat_guess.f at hf
    try simp only [toIs_len] at hf
    repeat' first | split at hf | (rw [Option.bind_eq_some_iff] at hf; obtain ⟨_, hy, hf⟩ := hf; try (cases hy)) | (rcases k with _ | k <;> unfold nat_guess.j1 at hf <;> (try simp only [toIs_len] at hf) <;> try (cases hf; done))
    all_goals try cases hf
    all_goals try simp only [Bool.not_eq_true', Bool.not_eq_true, Bool.not_eq_false] at *
    all_goals cbv
    all_goals repeat (first | (refine Exists.intro _ (Exists.intro _ (And.intro (by (try simp only [hA, shl, shr, std, nc, wd0, wd1, wd2, wd3]); assumption) ?_)); cbv) | (refine Exists.intro _ (And.intro (by (try simp only [hA, shl, shr, std, nc, wd0, wd1, wd2, wd3]); assumption) ?_); cbv) | (refine And.intro (by (try simp only [hA, shl, shr, std, nc, wd0, wd1, wd2, wd3]); first | done | exact ix ‹_› ‹_› | exact ix (Int.le_refl 0) ‹_› | decide | exact ap4 ‹_› | exact ap8 ‹_› | exact mk4 ‹_› ‹_› | exact mk8 ‹_› ‹_› | exact ix' ‹_› ‹_› | assumption | omega) ?_; cbv) | (split <;> rename_i hz <;> (try simp only [hA, shl, shr, std, nc, wd0, wd1, wd2, wd3] at hz) <;> first | contradiction | (exfalso; omega) | (exfalso; have hz2 := hz.symm.trans ‹_ = true›; cases hz2; done) | (exfalso; have hz2 := hz.symm.trans ‹_ = false›; cases hz2; done) | cbv))
    all_goals try (refine fin_int h ?_; (try simp only [hA, shl, shr, std, nc, wd0, wd1, wd2, wd3]); done)
    · refine (loop_intro hA [(0, .keep), (1, .keep), (2, .keep), (7, .keep), (9, .keep), (10, .keep)] (fun n s => ∃ e x y, s = st [(0, .row (.int .u32) a), (1, .row (.int .u32) b), (2, .int .i64 p), (7, .int .i64 e), (9, .int .u64 x), (10, .int .u64 y)] [] ∧ n ≤ k ∧ nat_guess.l0 n (toIs a) (toIs b) p e x y = some r) k ?_ ?_)
      · cbv
        (iterate 3 apply Exists.intro); refine ⟨?_, ?_⟩; cbv
        refine ⟨Nat.le_refl _, ?_⟩
        simpa only [hA, shl, shr, std, nc, wd0, wd1, wd2, wd3] using hf
      · rintro n0 s ⟨e, x, y, rfl, hle0, hi⟩
        cases n0 with
        | zero => cases hi
        | succ n0 =>
          unfold nat_guess.l0 at hi
          try simp only [toIs_len] at hi
          repeat' first | split at hi | (rw [Option.bind_eq_some_iff] at hi; obtain ⟨_, hy, hi⟩ := hi; try (cases hy)) | (rcases n0 with _ | n0 <;> unfold nat_guess.j1 at hi <;> (try simp only [toIs_len] at hi) <;> try (cases hi; done))
          all_goals try cases hi
          all_goals try simp only [Bool.not_eq_true', Bool.not_eq_true, Bool.not_eq_false] at *
          all_goals try simp only [decide_eq_true_eq, decide_eq_false_iff_not] at *
          all_goals cbv
          all_goals repeat (first | (refine Exists.intro _ (Exists.intro _ (And.intro (by (try simp only [hA, shl, shr, std, nc, wd0, wd1, wd2, wd3]); assumption) ?_)); cbv) | (refine Exists.intro _ (And.intro (by (try simp only [hA, shl, shr, std, nc, wd0, wd1, wd2, wd3]); assumption) ?_); cbv) | (refine And.intro (by (try simp only [hA, shl, shr, std, nc, wd0, wd1, wd2, wd3]); first | done | exact ix ‹_› ‹_› | exact ix (Int.le_refl 0) ‹_› | decide | exact ap4 ‹_› | exact ap8 ‹_› | exact mk4 ‹_› ‹_› | exact mk8 ‹_› ‹_› | exact ix' ‹_› ‹_› | assumption | omega) ?_; cbv) | (split <;> rename_i hz <;> (try simp only [hA, shl, shr, std, nc, wd0, wd1, wd2, wd3] at hz) <;> first | contradiction | (exfalso; omega) | (exfalso; have hz2 := hz.symm.trans ‹_ = true›; cases hz2; done) | (exfalso; have hz2 := hz.symm.trans ‹_ = false›; cases hz2; done) | cbv))
          all_goals try (refine ⟨n0, by omega, ?_⟩; cbv; (iterate 3 apply Exists.intro); refine ⟨?_, ?_⟩; cbv; refine ⟨by omega, ?_⟩; simpa only [hA, shl, shr, std, nc, wd0, wd1, wd2, wd3] using hi)
          all_goals try (refine fin_int h ?_; (try simp only [hA, shl, shr, std, nc, wd0, wd1, wd2, wd3]); done)
  · exact h.elim
def takeRun (A : Lz) (args : List FV) (q : FV → FV → Prop) : Prop :=
  match args with
  | [.row (.int .u32) a, .row (.int .u32) b, .int .i64 p, .int .u64 z] => ∃ k r, nat_take.f k (toIs a) (toIs b) p z = some r ∧ q (.bool r.1) (.row (.int .u32) (A _ fun _ => ii .u32 r.2))
  | _ => False
theorem take_ok : SpecOk EV 87 ⟨true, takeRun⟩ := by
  refine .shaped 4 (spec_go (.nil _) (fn := Tryd.f87) rfl rfl Tryd.func87 rfl true [] _ ?_)
  rintro A hA args q ⟨hw, h⟩
  unfold takeRun at h
  split at h
  · rename_i a b p z
    obtain ⟨k, r, hf, h⟩ := h
    try simp only [std] at h
    have wa := wf_ii (hw _ (.head _))
    have wb := wf_ii (hw _ (.tail _ (.head _)))
    refine ⟨Nat.le_of_ble_eq_true rfl, ?_⟩
    unfold nat_take.f at hf
    try simp only [toIs_len] at hf
    repeat' first | split at hf | (rw [Option.bind_eq_some_iff] at hf; obtain ⟨_, hy, hf⟩ := hf; try (cases hy))
    all_goals try cases hf
    all_goals try simp only [Bool.not_eq_true', Bool.not_eq_true, Bool.not_eq_false] at *
    all_goals cbv
    all_goals repeat (first | (refine Exists.intro _ (Exists.intro _ (And.intro (by (try simp only [hA, shl, shr, std, nc, wd0, wd1, wd2, wd3]); assumption) ?_)); cbv) | (refine Exists.intro _ (And.intro (by (try simp only [hA, shl, shr, std, nc, wd0, wd1, wd2, wd3]); assumption) ?_); cbv) | (refine And.intro (by (try simp only [hA, shl, shr, std, nc, wd0, wd1, wd2, wd3]); first | done | exact ix ‹_› ‹_› | exact ix (Int.le_refl 0) ‹_› | decide | exact ap4 ‹_› | exact ap8 ‹_› | exact mk4 ‹_› ‹_› | exact mk8 ‹_› ‹_› | exact ix' ‹_› ‹_› | assumption | omega) ?_; cbv) | (split <;> rename_i hz <;> (try simp only [hA, shl, shr, std, nc, wd0, wd1, wd2, wd3] at hz) <;> first | contradiction | (exfalso; omega) | (exfalso; have hz2 := hz.symm.trans ‹_ = true›; cases hz2; done) | (exfalso; have hz2 := hz.symm.trans ‹_ = false›; cases hz2; done) | cbv))
    all_goals try (refine fin2 h ?_ ?_ <;> (try simp only [hA, shl, shr, std, nc, wd0, wd1, wd2, wd3]) <;> first | rfl | (refine congrArg _ ?_; exact set_ii' ‹_› _ _); done)
    · refine (loop_intro hA [(0, .own (.int .u32)), (1, .keep), (2, .keep), (3, .keep), (9, .keep), (10, .keep), (15, .keep), (16, .keep)] (fun n s => ∃ o x y e i, s = st [(0, .own 0 0), (1, .row (.int .u32) b), (2, .int .i64 p), (3, .int .u64 z), (9, .int .u64 x), (10, .int .u64 y), (15, .int .i64 e), (16, .int .i64 i)] [(0, ⟨0, true, .arr (.int .u32) false o⟩)] ∧ o = ii .u32 (toIs o) ∧ n ≤ k ∧ nat_take.l0 n (toIs o) (toIs b) p z x y e i = some r) k ?_ ?_)
      · cbv
        (iterate 5 apply Exists.intro); refine ⟨?_, ?_⟩; cbv; refine ⟨by ((try simp only [hA, nE, std, zE32, zE64, nc]); first | done | exact set_wf ‹_› _ _ | exact repl_ii _ _ _ | exact app_wf ‹_› _ | exact take_wf ‹_› _ | assumption | exact ii_wf _ _ | exact take_wf (ii_wf _ _) _ | rfl), ?_⟩
        refine ⟨Nat.le_refl _, ?_⟩
        simpa only [hA, shl, shr, std, nc, wd0, wd1, wd2, wd3] using hf
      · rintro n0 s ⟨o, x, y, e, i, rfl, wo, hle0, hi⟩
        cases n0 with
        | zero => cases hi
        | succ n0 =>
          unfold nat_take.l0 at hi
          try simp only [toIs_len] at hi
          repeat' first | split at hi | (rw [Option.bind_eq_some_iff] at hi; obtain ⟨_, hy, hi⟩ := hi; try (cases hy))
          all_goals try cases hi
          all_goals try simp only [Bool.not_eq_true', Bool.not_eq_true, Bool.not_eq_false] at *
          all_goals cbv
          all_goals repeat (first | (refine Exists.intro _ (Exists.intro _ (And.intro (by (try simp only [hA, shl, shr, std, nc, wd0, wd1, wd2, wd3]); assumption) ?_)); cbv) | (refine Exists.intro _ (And.intro (by (try simp only [hA, shl, shr, std, nc, wd0, wd1, wd2, wd3]); assumption) ?_); cbv) | (refine And.intro (by (try simp only [hA, shl, shr, std, nc, wd0, wd1, wd2, wd3]); first | done | exact ix ‹_› ‹_› | exact ix (Int.le_refl 0) ‹_› | decide | exact ap4 ‹_› | exact ap8 ‹_› | exact mk4 ‹_› ‹_› | exact mk8 ‹_› ‹_› | exact ix' ‹_› ‹_› | assumption | omega) ?_; cbv) | (split <;> rename_i hz <;> (try simp only [hA, shl, shr, std, nc, wd0, wd1, wd2, wd3] at hz) <;> first | contradiction | (exfalso; omega) | (exfalso; have hz2 := hz.symm.trans ‹_ = true›; cases hz2; done) | (exfalso; have hz2 := hz.symm.trans ‹_ = false›; cases hz2; done) | cbv))
          all_goals try (refine ⟨n0, by omega, ?_⟩; cbv; (iterate 5 apply Exists.intro); refine ⟨?_, ?_⟩; cbv; refine ⟨by ((try simp only [hA, nE, std, zE32, zE64, nc]); first | done | exact set_wf ‹_› _ _ | exact repl_ii _ _ _ | exact app_wf ‹_› _ | exact take_wf ‹_› _ | assumption | exact ii_wf _ _ | exact take_wf (ii_wf _ _) _ | rfl), ?_⟩; refine ⟨by omega, ?_⟩; simpa only [hA, shl, shr, std, nc, wd0, wd1, wd2, wd3] using hi)
          all_goals try (refine fin2 h ?_ ?_ <;> (try simp only [hA, shl, shr, std, nc, wd0, wd1, wd2, wd3]) <;> first | rfl | (refine congrArg _ ?_; exact set_ii' ‹_› _ _); done)
  · exact h.elim
def giveRun (A : Lz) (args : List FV) (q : FV → FV → Prop) : Prop :=
  match args with
  | [.row (.int .u32) a, .row (.int .u32) b, .int .i64 p] => ∃ k r, nat_give.f k (toIs a) (toIs b) p = some r ∧ q (.tup []) (.row (.int .u32) (A _ fun _ => ii .u32 r))
  | _ => False
theorem give_ok : SpecOk EV 88 ⟨true, giveRun⟩ := by
  refine .shaped 4 (spec_go (.nil _) (fn := Tryd.f88) rfl rfl Tryd.func88 rfl true [] _ ?_)
  rintro A hA args q ⟨hw, h⟩
  unfold giveRun at h
  split at h
  · rename_i a b p
    obtain ⟨k, r, hf, h⟩ := h
    try simp only [std] at h
    have wa := wf_ii (hw _ (.head _))
    have wb := wf_ii (hw _ (.tail _ (.head _)))
    refine ⟨Nat.le_of_ble_eq_true rfl, ?_⟩
    unfold nat_give.f at hf
    try simp only [toIs_len] at hf
    repeat' first | split at hf | (rw [Option.bind_eq_some_iff] at hf; obtain ⟨_, hy, hf⟩ := hf; try (cases hy))
    all_goals try cases hf
    all_goals try simp only [Bool.not_eq_true', Bool.not_eq_true, Bool.not_eq_false] at *
    all_goals cbv
    all_goals repeat (first | (refine Exists.intro _ (Exists.intro _ (And.intro (by (try simp only [hA, shl, shr, std, nc, wd0, wd1, wd2, wd3]); assumption) ?_)); cbv) | (refine Exists.intro _ (And.intro (by (try simp only [hA, shl, shr, std, nc, wd0, wd1, wd2, wd3]); assumption) ?_); cbv) | (refine And.intro (by (try simp only [hA, shl, shr, std, nc, wd0, wd1, wd2, wd3]); first | done | exact ix ‹_› ‹_› | exact ix (Int.le_refl 0) ‹_› | decide | exact ap4 ‹_› | exact ap8 ‹_› | exact mk4 ‹_› ‹_› | exact mk8 ‹_› ‹_› | exact ix' ‹_› ‹_› | assumption | omega) ?_; cbv) | (split <;> rename_i hz <;> (try simp only [hA, shl, shr, std, nc, wd0, wd1, wd2, wd3] at hz) <;> first | contradiction | (exfalso; omega) | (exfalso; have hz2 := hz.symm.trans ‹_ = true›; cases hz2; done) | (exfalso; have hz2 := hz.symm.trans ‹_ = false›; cases hz2; done) | cbv))
    all_goals try (refine fin2 h ?_ ?_ <;> (try simp only [hA, shl, shr, std, nc, wd0, wd1, wd2, wd3]) <;> first | rfl | (refine congrArg _ ?_; exact set_ii' ‹_› _ _); done)
    · refine (loop_intro hA [(0, .own (.int .u32)), (1, .keep), (2, .keep), (6, .keep), (9, .keep), (10, .keep)] (fun n s => ∃ o x e i, s = st [(0, .own 0 0), (1, .row (.int .u32) b), (2, .int .i64 p), (6, .int .u64 x), (9, .int .i64 e), (10, .int .i64 i)] [(0, ⟨0, true, .arr (.int .u32) false o⟩)] ∧ o = ii .u32 (toIs o) ∧ n ≤ k ∧ nat_give.l0 n (toIs o) (toIs b) p x e i = some r) k ?_ ?_)
      · cbv
        (iterate 4 apply Exists.intro); refine ⟨?_, ?_⟩; cbv; refine ⟨by ((try simp only [hA, nE, std, zE32, zE64, nc]); first | done | exact set_wf ‹_› _ _ | exact repl_ii _ _ _ | exact app_wf ‹_› _ | exact take_wf ‹_› _ | assumption | exact ii_wf _ _ | exact take_wf (ii_wf _ _) _ | rfl), ?_⟩
        refine ⟨Nat.le_refl _, ?_⟩
        simpa only [hA, shl, shr, std, nc, wd0, wd1, wd2, wd3] using hf
      · rintro n0 s ⟨o, x, e, i, rfl, wo, hle0, hi⟩
        cases n0 with
        | zero => cases hi
        | succ n0 =>
          unfold nat_give.l0 at hi
          try simp only [toIs_len] at hi
          repeat' first | split at hi | (rw [Option.bind_eq_some_iff] at hi; obtain ⟨_, hy, hi⟩ := hi; try (cases hy))
          all_goals try cases hi
          all_goals try simp only [Bool.not_eq_true', Bool.not_eq_true, Bool.not_eq_false] at *
          all_goals cbv
          all_goals repeat (first | (refine Exists.intro _ (Exists.intro _ (And.intro (by (try simp only [hA, shl, shr, std, nc, wd0, wd1, wd2, wd3]); assumption) ?_)); cbv) | (refine Exists.intro _ (And.intro (by (try simp only [hA, shl, shr, std, nc, wd0, wd1, wd2, wd3]); assumption) ?_); cbv) | (refine And.intro (by (try simp only [hA, shl, shr, std, nc, wd0, wd1, wd2, wd3]); first | done | exact ix ‹_› ‹_› | exact ix (Int.le_refl 0) ‹_› | decide | exact ap4 ‹_› | exact ap8 ‹_› | exact mk4 ‹_› ‹_› | exact mk8 ‹_› ‹_› | exact ix' ‹_› ‹_› | assumption | omega) ?_; cbv) | (split <;> rename_i hz <;> (try simp only [hA, shl, shr, std, nc, wd0, wd1, wd2, wd3] at hz) <;> first | contradiction | (exfalso; omega) | (exfalso; have hz2 := hz.symm.trans ‹_ = true›; cases hz2; done) | (exfalso; have hz2 := hz.symm.trans ‹_ = false›; cases hz2; done) | cbv))
          all_goals try (refine ⟨n0, by omega, ?_⟩; cbv; (iterate 4 apply Exists.intro); refine ⟨?_, ?_⟩; cbv; refine ⟨by ((try simp only [hA, nE, std, zE32, zE64, nc]); first | done | exact set_wf ‹_› _ _ | exact repl_ii _ _ _ | exact app_wf ‹_› _ | exact take_wf ‹_› _ | assumption | exact ii_wf _ _ | exact take_wf (ii_wf _ _) _ | rfl), ?_⟩; refine ⟨by omega, ?_⟩; simpa only [hA, shl, shr, std, nc, wd0, wd1, wd2, wd3] using hi)
          all_goals try (refine fin2 h ?_ ?_ <;> (try simp only [hA, shl, shr, std, nc, wd0, wd1, wd2, wd3]) <;> first | rfl | (refine congrArg _ ?_; exact set_ii' ‹_› _ _); done)
  · exact h.elim
end Go.Proofs.YtmndbhgbngkakaaDoor.Z
end
section
/- The program's naturals over plain data. No condition. -/
namespace Go.Proofs.YtmndbhgbngkakaaDoor.Z
open Go Go.RowKit Go.Proofs.YtmndbhgbngkakaaDoor.E Go.Proofs.YtmndbhgbngkakaaDoor.G Go.Proofs.YtmndbhgbngkakaaDoor.K Go.Proofs.YtmndbhgbngkakaaDoor.F
open Go.Proofs.YtmndbhgbngkakaaDoorW.PrintWords hiding rd
set_option linter.all false

set_option maxRecDepth 100000
set_option maxHeartbeats 4000000
def rtRun (A : Lz) (args : List FV) (q : FV → FV → Prop) : Prop :=
  match args with
  | [.row (.int .u32) a] => ∃ r, nat_Right.f (toIs a) = some r ∧ q (.bool r) .dead
  | _ => False
theorem rt_ok : SpecOk EV 53 ⟨false, rtRun⟩ := by
  refine .shaped 4 (spec_go (.nil _) (fn := Tryd.f53) rfl rfl Tryd.func53 rfl false [] _ ?_)
  rintro A hA args q ⟨hw, h⟩
  unfold rtRun at h
  split at h
  · rename_i a
    obtain ⟨r, hf, h⟩ := h
    try simp only [std] at h
    have wa := wf_ii (hw _ (.head _))
    refine ⟨Nat.le_of_ble_eq_true rfl, ?_⟩
    unfold nat_Right.f at hf
    try simp only [toIs_len] at hf
    repeat' first | split at hf | (rw [Option.bind_eq_some_iff] at hf; obtain ⟨_, hy, hf⟩ := hf; try (cases hy))
    all_goals try cases hf
    all_goals try simp only [Bool.not_eq_true', Bool.not_eq_true, Bool.not_eq_false] at *
    all_goals cbv
    all_goals repeat (first | (refine Exists.intro _ (Exists.intro _ (And.intro (by (try simp only [hA, shl, shr, std, nc, wd0, wd1, wd2, wd3]); assumption) ?_)); cbv) | (refine Exists.intro _ (And.intro (by (try simp only [hA, shl, shr, std, nc, wd0, wd1, wd2, wd3]); assumption) ?_); cbv) | (refine And.intro (by (try simp only [hA, shl, shr, std, nc, wd0, wd1, wd2, wd3]); first | done | exact ix ‹_› ‹_› | exact ix (Int.le_refl 0) ‹_› | decide | exact ap4 ‹_› | exact ap8 ‹_› | exact mk4 ‹_› ‹_› | exact mk8 ‹_› ‹_› | exact ix' ‹_› ‹_› | assumption | omega) ?_; cbv) | (split <;> rename_i hz <;> (try simp only [hA, shl, shr, std, nc, wd0, wd1, wd2, wd3] at hz) <;> first | contradiction | (exfalso; omega) | (exfalso; have hz2 := hz.symm.trans ‹_ = true›; cases hz2; done) | (exfalso; have hz2 := hz.symm.trans ‹_ = false›; cases hz2; done) | cbv))
    all_goals (refine fin_bool h ?_; (try simp only [hA, shl, shr, std, nc, wd0, wd1, wd2, wd3]); first | done | rfl)
  · exact h.elim
def cmpRun (A : Lz) (args : List FV) (q : FV → FV → Prop) : Prop :=
  match args with
  | [.row (.int .u32) a, .row (.int .u32) b] => ∃ k r, nat_Cmp.f k (toIs a) (toIs b) = some r ∧ q (.int .i64 r) .dead
  | _ => False
theorem cmp_ok : SpecOk EV 40 ⟨false, cmpRun⟩ := by
  refine .shaped 4 (spec_go (.cons (f := 53) rt_ok (.cons (f := 57) order_ok (.nil _))) (fn := Tryd.f40) rfl rfl Tryd.func40 rfl false [] _ ?_)
  rintro A hA args q ⟨hw, h⟩
  unfold cmpRun at h
  split at h
  · rename_i a b
    obtain ⟨k, r, hf, h⟩ := h
    try simp only [std] at h
    have wa := wf_ii (hw _ (.head _))
    have wb := wf_ii (hw _ (.tail _ (.head _)))
    refine ⟨Nat.le_of_ble_eq_true rfl, ?_⟩
    unfold nat_Cmp.f at hf
    try simp only [toIs_len] at hf
    repeat' first | split at hf | (rw [Option.bind_eq_some_iff] at hf; obtain ⟨_, hy, hf⟩ := hf; try (cases hy))
    all_goals try cases hf
    all_goals try simp only [Bool.not_eq_true', Bool.not_eq_true, Bool.not_eq_false] at *
    all_goals cbv
    all_goals repeat (first | (refine Exists.intro _ (Exists.intro _ (And.intro (by (try simp only [hA, shl, shr, std, nc, wd0, wd1, wd2, wd3]); assumption) ?_)); cbv) | (refine Exists.intro _ (And.intro (by (try simp only [hA, shl, shr, std, nc, wd0, wd1, wd2, wd3]); assumption) ?_); cbv) | (refine And.intro (by (try simp only [hA, shl, shr, std, nc, wd0, wd1, wd2, wd3]); first | done | exact ix ‹_› ‹_› | exact ix (Int.le_refl 0) ‹_› | decide | exact ap4 ‹_› | exact ap8 ‹_› | exact mk4 ‹_› ‹_› | exact mk8 ‹_› ‹_› | exact ix' ‹_› ‹_› | assumption | omega) ?_; cbv) | (split <;> rename_i hz <;> (try simp only [hA, shl, shr, std, nc, wd0, wd1, wd2, wd3] at hz) <;> first | contradiction | (exfalso; omega) | (exfalso; have hz2 := hz.symm.trans ‹_ = true›; cases hz2; done) | (exfalso; have hz2 := hz.symm.trans ‹_ = false›; cases hz2; done) | cbv))
    all_goals (refine fin1 h ?_; (try simp only [hA, shl, shr, std, nc, wd0, wd1, wd2, wd3]); first | done | rfl)
  · exact h.elim
end Go.Proofs.YtmndbhgbngkakaaDoor.Z
end
section
/- The program's naturals over plain data. No condition. -/
namespace Go.Proofs.YtmndbhgbngkakaaDoor.Z
open Go Go.RowKit Go.Proofs.YtmndbhgbngkakaaDoor.E Go.Proofs.YtmndbhgbngkakaaDoor.G Go.Proofs.YtmndbhgbngkakaaDoor.K Go.Proofs.YtmndbhgbngkakaaDoor.F
open Go.Proofs.YtmndbhgbngkakaaDoorW.PrintWords hiding rd
set_option linter.all false

set_option maxRecDepth 100000
set_option maxHeartbeats 4000000
def timesRun (A : Lz) (args : List FV) (q : FV → FV → Prop) : Prop :=
  match args with
  | [.row (.int .u32) a, .row (.int .u32) b] => ∃ k r, nat_times.f k (toIs a) (toIs b) = some r ∧ q (.row (.int .u32) (A _ fun _ => ii .u32 r)) .dead
  | _ => False
theorem times_ok : SpecOk EV 70 ⟨false, timesRun⟩ := by
  refine .shaped 4 (spec_go (.cons (f := 55) trim_ok (.nil _)) (fn := Tryd.f70) rfl rfl Tryd.func70 rfl false [] _ ?_)
  rintro A hA args q ⟨hw, h⟩
  unfold timesRun at h
  split at h
  · rename_i a b
    obtain ⟨k, r, hf, h⟩ := h
    try simp only [std] at h
    have wa := wf_ii (hw _ (.head _))
    have wb := wf_ii (hw _ (.tail _ (.head _)))
    refine ⟨Nat.le_of_ble_eq_true rfl, ?_⟩
    unfold nat_times.f at hf
    try simp only [toIs_len] at hf
    repeat' first | split at hf | (rw [Option.bind_eq_some_iff] at hf; obtain ⟨_, hy, hf⟩ := hf; try (cases hy))
    all_goals try cases hf
    all_goals try simp only [Bool.not_eq_true', Bool.not_eq_true, Bool.not_eq_false] at *
    all_goals cbv
    all_goals repeat (first | (refine Exists.intro _ (Exists.intro _ (And.intro (by (try simp only [hA, shl, shr, std, nc, wd0, wd1, wd2, wd3]); assumption) ?_)); cbv) | (refine Exists.intro _ (And.intro (by (try simp only [hA, shl, shr, std, nc, wd0, wd1, wd2, wd3]); assumption) ?_); cbv) | (refine And.intro (by (try simp only [hA, shl, shr, std, nc, wd0, wd1, wd2, wd3]); first | done | exact ix ‹_› ‹_› | exact ix (Int.le_refl 0) ‹_› | decide | exact ap4 ‹_› | exact ap8 ‹_› | exact mk4 ‹_› ‹_› | exact mk8 ‹_› ‹_› | exact ix' ‹_› ‹_› | assumption | omega) ?_; cbv) | (split <;> rename_i hz <;> (try simp only [hA, shl, shr, std, nc, wd0, wd1, wd2, wd3] at hz) <;> first | contradiction | (exfalso; omega) | (exfalso; have hz2 := hz.symm.trans ‹_ = true›; cases hz2; done) | (exfalso; have hz2 := hz.symm.trans ‹_ = false›; cases hz2; done) | cbv))
    all_goals try (refine fin1 h ?_; (try simp only [hA, shl, shr, std, nc, wd0, wd1, wd2, wd3]); first | done | rfl; done)
    · refine (loop_intro hA [(1, .keep), (5, .own (.int .u32)), (17, .keep), (18, .keep), (19, .keep)] (fun n s => ∃ o e i, s = st [(1, .row (.int .u32) b), (5, .own 5 0), (17, .row (.int .u32) a), (18, .int .i64 e), (19, .int .i64 i)] [(5, ⟨0, true, .arr (.int .u32) true o⟩)] ∧ o = ii .u32 (toIs o) ∧ n ≤ k ∧ nat_times.l0 n (toIs b) (toIs o) (toIs a) e i = some r) k ?_ ?_)
      · cbv
        (iterate 3 apply Exists.intro); refine ⟨?_, ?_⟩; cbv; refine ⟨by ((try simp only [hA, nE, std, zE32, zE64, nc]); first | done | exact set_wf ‹_› _ _ | exact repl_ii _ _ _ | exact app_wf ‹_› _ | exact take_wf ‹_› _ | assumption | exact ii_wf _ _ | exact take_wf (ii_wf _ _) _ | rfl), ?_⟩
        refine ⟨Nat.le_refl _, ?_⟩
        simpa only [hA, shl, shr, std, nc, wd0, wd1, wd2, wd3] using hf
      · rintro n0 s ⟨o, e, i, rfl, wo, hle0, hi⟩
        cases n0 with
        | zero => cases hi
        | succ n0 =>
          unfold nat_times.l0 at hi
          try simp only [toIs_len] at hi
          repeat' first | split at hi | (rw [Option.bind_eq_some_iff] at hi; obtain ⟨_, hy, hi⟩ := hi; try (cases hy))
          all_goals try cases hi
          all_goals try simp only [Bool.not_eq_true', Bool.not_eq_true, Bool.not_eq_false] at *
          all_goals cbv
          all_goals repeat (first | (refine Exists.intro _ (Exists.intro _ (And.intro (by (try simp only [hA, shl, shr, std, nc, wd0, wd1, wd2, wd3]); assumption) ?_)); cbv) | (refine Exists.intro _ (And.intro (by (try simp only [hA, shl, shr, std, nc, wd0, wd1, wd2, wd3]); assumption) ?_); cbv) | (refine And.intro (by (try simp only [hA, shl, shr, std, nc, wd0, wd1, wd2, wd3]); first | done | exact ix ‹_› ‹_› | exact ix (Int.le_refl 0) ‹_› | decide | exact ap4 ‹_› | exact ap8 ‹_› | exact mk4 ‹_› ‹_› | exact mk8 ‹_› ‹_› | exact ix' ‹_› ‹_› | assumption | omega) ?_; cbv) | (split <;> rename_i hz <;> (try simp only [hA, shl, shr, std, nc, wd0, wd1, wd2, wd3] at hz) <;> first | contradiction | (exfalso; omega) | (exfalso; have hz2 := hz.symm.trans ‹_ = true›; cases hz2; done) | (exfalso; have hz2 := hz.symm.trans ‹_ = false›; cases hz2; done) | cbv))
          all_goals try (refine ⟨n0, by omega, ?_⟩; cbv; (iterate 3 apply Exists.intro); refine ⟨?_, ?_⟩; cbv; refine ⟨by ((try simp only [hA, nE, std, zE32, zE64, nc]); first | done | exact set_wf ‹_› _ _ | exact repl_ii _ _ _ | exact app_wf ‹_› _ | exact take_wf ‹_› _ | assumption | exact ii_wf _ _ | exact take_wf (ii_wf _ _) _ | rfl), ?_⟩; refine ⟨by omega, ?_⟩; simpa only [hA, shl, shr, std, nc, wd0, wd1, wd2, wd3] using hi)
          all_goals try (refine fin1 h ?_; (try simp only [hA, shl, shr, std, nc, wd0, wd1, wd2, wd3]); first | done | rfl; done)
          all_goals
            refine (loop_intro hA [(1, .keep), (5, .own (.int .u32)), (6, .keep), (7, .keep), (8, .keep), (17, .keep), (18, .keep), (19, .keep), (24, .keep), (25, .keep), (26, .keep)] (fun n s => ∃ o1 x y f j, s = st [(1, .row (.int .u32) b), (5, .own 5 0), (6, .int .i64 i), (7, .int .u32 x), (8, .int .u64 y), (17, .row (.int .u32) a), (18, .int .i64 e), (19, .int .i64 i), (24, .row (.int .u32) b), (25, .int .i64 f), (26, .int .i64 j)] [(5, ⟨0, true, .arr (.int .u32) true o1⟩)] ∧ o1 = ii .u32 (toIs o1) ∧ n ≤ n0 ∧ nat_times.l1 n (toIs b) (toIs o1) i x y (toIs a) e i (toIs b) f j = some r) n0 ?_ ?_)
            · cbv
              (iterate 5 apply Exists.intro); refine ⟨?_, ?_⟩; cbv; refine ⟨by ((try simp only [hA, nE, std, zE32, zE64, nc]); first | done | exact set_wf ‹_› _ _ | exact repl_ii _ _ _ | exact app_wf ‹_› _ | exact take_wf ‹_› _ | assumption | exact ii_wf _ _ | exact take_wf (ii_wf _ _) _ | rfl), ?_⟩
              refine ⟨Nat.le_refl _, ?_⟩
              simpa only [hA, shl, shr, std, nc, wd0, wd1, wd2, wd3] using hi
            · rintro n1 s ⟨o1, x, y, f, j, rfl, wo1, hle1, hi⟩
              cases n1 with
              | zero => cases hi
              | succ n1 =>
                unfold nat_times.l1 at hi
                try simp only [toIs_len] at hi
                repeat' first | split at hi | (rw [Option.bind_eq_some_iff] at hi; obtain ⟨_, hy, hi⟩ := hi; try (cases hy))
                all_goals try cases hi
                all_goals try simp only [Bool.not_eq_true', Bool.not_eq_true, Bool.not_eq_false] at *
                all_goals cbv
                all_goals repeat (first | (refine Exists.intro _ (Exists.intro _ (And.intro (by (try simp only [hA, shl, shr, std, nc, wd0, wd1, wd2, wd3]); assumption) ?_)); cbv) | (refine Exists.intro _ (And.intro (by (try simp only [hA, shl, shr, std, nc, wd0, wd1, wd2, wd3]); assumption) ?_); cbv) | (refine And.intro (by (try simp only [hA, shl, shr, std, nc, wd0, wd1, wd2, wd3]); first | done | exact ix ‹_› ‹_› | exact ix (Int.le_refl 0) ‹_› | decide | exact ap4 ‹_› | exact ap8 ‹_› | exact mk4 ‹_› ‹_› | exact mk8 ‹_› ‹_› | exact ix' ‹_› ‹_› | assumption | omega) ?_; cbv) | (split <;> rename_i hz <;> (try simp only [hA, shl, shr, std, nc, wd0, wd1, wd2, wd3] at hz) <;> first | contradiction | (exfalso; omega) | (exfalso; have hz2 := hz.symm.trans ‹_ = true›; cases hz2; done) | (exfalso; have hz2 := hz.symm.trans ‹_ = false›; cases hz2; done) | cbv))
                all_goals try (refine ⟨n1, by omega, ?_⟩; cbv; (iterate 5 apply Exists.intro); refine ⟨?_, ?_⟩; cbv; refine ⟨by ((try simp only [hA, nE, std, zE32, zE64, nc]); first | done | exact set_wf ‹_› _ _ | exact repl_ii _ _ _ | exact app_wf ‹_› _ | exact take_wf ‹_› _ | assumption | exact ii_wf _ _ | exact take_wf (ii_wf _ _) _ | rfl), ?_⟩; refine ⟨by omega, ?_⟩; simpa only [hA, shl, shr, std, nc, wd0, wd1, wd2, wd3] using hi)
                all_goals try (refine ⟨n1, by omega, ?_⟩; cbv; (iterate 3 apply Exists.intro); refine ⟨?_, ?_⟩; cbv; refine ⟨by ((try simp only [hA, nE, std, zE32, zE64, nc]); first | done | exact set_wf ‹_› _ _ | exact repl_ii _ _ _ | exact app_wf ‹_› _ | exact take_wf ‹_› _ | assumption | exact ii_wf _ _ | exact take_wf (ii_wf _ _) _ | rfl), ?_⟩; refine ⟨by omega, ?_⟩; simpa only [hA, shl, shr, std, nc, wd0, wd1, wd2, wd3] using hi)
                all_goals try (refine fin1 h ?_; (try simp only [hA, shl, shr, std, nc, wd0, wd1, wd2, wd3]); first | done | rfl; done)
  · exact h.elim
def mulRun (A : Lz) (args : List FV) (q : FV → FV → Prop) : Prop :=
  match args with
  | [.row (.int .u32) a, .row (.int .u32) b] => ∃ k r, nat_Mul.f k (toIs a) (toIs b) = some r ∧ q (.tup [.row (.int .u32) (A _ fun _ => ii .u32 r.1), .int .i64 r.2]) .dead
  | _ => False
theorem mul_ok : SpecOk EV 56 ⟨false, mulRun⟩ := by
  refine .fit [.row (.int .u32)] (spec_go (.cons (f := 53) rt_ok (.cons (f := 70) times_ok (.cons (f := 69) kept_ok (.nil _)))) (fn := Tryd.f56) rfl rfl Tryd.func56 rfl false [] _ ?_)
  rintro A hA args q0 ⟨hw, q, hq, h⟩
  unfold mulRun at h
  split at h
  · rename_i a b
    obtain ⟨k, r, hf, h⟩ := h
    try simp only [std] at h
    have wa := wf_ii (hw _ (.head _))
    have wb := wf_ii (hw _ (.tail _ (.head _)))
    refine ⟨Nat.le_of_ble_eq_true rfl, ?_⟩
    unfold nat_Mul.f at hf
    try simp only [toIs_len] at hf
    repeat' first | split at hf | (rw [Option.bind_eq_some_iff] at hf; obtain ⟨_, hy, hf⟩ := hf; try (cases hy)) | (rcases k with _ | k <;> unfold nat_Mul.j0 at hf <;> (try simp only [toIs_len] at hf) <;> try (cases hf; done))
    all_goals try cases hf
    all_goals try simp only [Bool.not_eq_true', Bool.not_eq_true, Bool.not_eq_false] at *
    all_goals cbv
    all_goals repeat (first | (refine Exists.intro _ (Exists.intro _ (And.intro (by (try simp only [hA, shl, shr, std, nc, wd0, wd1, wd2, wd3]); assumption) ?_)); cbv) | (refine Exists.intro _ (And.intro (by (try simp only [hA, shl, shr, std, nc, wd0, wd1, wd2, wd3]); assumption) ?_); cbv) | (refine And.intro (by (try simp only [hA, shl, shr, std, nc, wd0, wd1, wd2, wd3]); first | done | exact ix ‹_› ‹_› | exact ix (Int.le_refl 0) ‹_› | decide | exact ap4 ‹_› | exact ap8 ‹_› | exact mk4 ‹_› ‹_› | exact mk8 ‹_› ‹_› | exact ix' ‹_› ‹_› | assumption | omega) ?_; cbv) | (split <;> rename_i hz <;> (try simp only [hA, shl, shr, std, nc, wd0, wd1, wd2, wd3] at hz) <;> first | contradiction | (exfalso; omega) | (exfalso; have hz2 := hz.symm.trans ‹_ = true›; cases hz2; done) | (exfalso; have hz2 := hz.symm.trans ‹_ = false›; cases hz2; done) | cbv))
    all_goals (refine hq _ _ ?_; refine fin1 h ?_; (try simp only [hA, shl, shr, std, nc, wd0, wd1, wd2, wd3]); first | done | rfl)
  · exact h.elim
end Go.Proofs.YtmndbhgbngkakaaDoor.Z
end
section
/- The program's naturals over plain data. No condition. -/
namespace Go.Proofs.YtmndbhgbngkakaaDoor.Z
open Go Go.RowKit Go.Proofs.YtmndbhgbngkakaaDoor.E Go.Proofs.YtmndbhgbngkakaaDoor.G Go.Proofs.YtmndbhgbngkakaaDoor.K Go.Proofs.YtmndbhgbngkakaaDoor.F
open Go.Proofs.YtmndbhgbngkakaaDoorW.PrintWords hiding rd
set_option linter.all false

set_option maxRecDepth 100000
set_option maxHeartbeats 4000000
/-- slices.Clone of a natural. -/
def clnRun (A : Lz) (args : List FV) (q : FV → FV → Prop) : Prop :=
  match args with
  | [.row (.int .u32) a] => ∃ r, api_Nat_uint32.f (toIs a) = some r ∧ q (.new (.int .u32) (A _ fun _ => ii .u32 r)) .dead
  | _ => False
theorem cln_ok : SpecOk EV 72 ⟨false, clnRun⟩ := by
  refine clone_nat_ok.less fun xs q hw h => ?_
  unfold clnRun at h
  split at h
  · rename_i a
    obtain ⟨r, hf, h⟩ := h
    have wa := wf_ii (hw _ (.head _))
    unfold api_Nat_uint32.f at hf
    have hf : (if ([] : List Int).length + (toIs a).length < 35184372088832 then some ([] ++ toIs a) else none) = some r := hf
    split at hf
    · rename_i hl
      cases hf
      refine ⟨rfl, fun _ => ?_, ?_⟩
      · simp only [toIs_len, List.length_nil] at hl
        unfold room maxRoom
        omega
      · simp only [std] at h ⊢
        rw [List.nil_append, ← wa] at h
        exact h
    · cases hf
  · exact h.elim
def lzRun (A : Lz) (args : List FV) (q : FV → FV → Prop) : Prop :=
  match args with
  | [.int .u32 a] => ∃ r, bits_LeadingZeros32.f a = some r ∧ q (.int .i64 r) .dead
  | _ => False
theorem lz_ok : SpecOk EV 84 ⟨false, lzRun⟩ := by
  refine .shaped 4 (spec_go (.cons (f := 92) len_ok (.nil _)) (fn := Tryd.f84) rfl rfl Tryd.func84 rfl false [] _ ?_)
  rintro A hA args q ⟨hw, h⟩
  unfold lzRun at h
  split at h
  · rename_i a
    obtain ⟨r, hf, h⟩ := h
    try simp only [std] at h
    refine ⟨Nat.le_of_ble_eq_true rfl, ?_⟩
    unfold bits_LeadingZeros32.f at hf
    try simp only [toIs_len] at hf
    repeat' first | split at hf | (rw [Option.bind_eq_some_iff] at hf; obtain ⟨_, hy, hf⟩ := hf; try (cases hy))
    all_goals try cases hf
    all_goals try simp only [Bool.not_eq_true', Bool.not_eq_true, Bool.not_eq_false] at *
    all_goals cbv
    all_goals repeat (first | (refine Exists.intro _ (Exists.intro _ (And.intro (by (try simp only [hA, shl, shr, std, nc, wd0, wd1, wd2, wd3]); assumption) ?_)); cbv) | (refine Exists.intro _ (And.intro (by (try simp only [hA, shl, shr, std, nc, wd0, wd1, wd2, wd3]); assumption) ?_); cbv) | (refine And.intro (by (try simp only [hA, shl, shr, std, nc, wd0, wd1, wd2, wd3]); first | done | exact ix ‹_› ‹_› | exact ix (Int.le_refl 0) ‹_› | decide | exact ap4 ‹_› | exact ap8 ‹_› | exact mk4 ‹_› ‹_› | exact mk8 ‹_› ‹_› | exact ix' ‹_› ‹_› | assumption | omega) ?_; cbv) | (split <;> rename_i hz <;> (try simp only [hA, shl, shr, std, nc, wd0, wd1, wd2, wd3] at hz) <;> first | contradiction | (exfalso; omega) | (exfalso; have hz2 := hz.symm.trans ‹_ = true›; cases hz2; done) | (exfalso; have hz2 := hz.symm.trans ‹_ = false›; cases hz2; done) | cbv))
    all_goals (refine fin1 h ?_; (try simp only [hA, shl, shr, std, nc, wd0, wd1, wd2, wd3]); first | done | rfl)
  · exact h.elim
def longRun (A : Lz) (args : List FV) (q : FV → FV → Prop) : Prop :=
  match args with
  | [.row (.int .u32) a, .row (.int .u32) b] => ∃ k r, nat_long.f k (toIs a) (toIs b) = some r ∧ q (.tup [.row (.int .u32) (A _ fun _ => ii .u32 r.1), .row (.int .u32) (A _ fun _ => ii .u32 r.2)]) .dead
  | _ => False
theorem long_ok : SpecOk EV 79 ⟨false, longRun⟩ := by
  refine .shaped 4 (spec_go (.cons (f := 84) lz_ok (.cons (f := 85) shift_ok (.cons (f := 86) guess_ok (.cons (f := 87) take_ok (.cons (f := 88) give_ok (.cons (f := 89) unshift_ok (.cons (f := 55) trim_ok (.nil _)))))))) (fn := Tryd.f79) rfl rfl Tryd.func79 rfl false [] _ ?_)
  rintro A hA args q ⟨hw, h⟩
  unfold longRun at h
  split at h
  · rename_i a b
    obtain ⟨k, r, hf, h⟩ := h
    try simp only [std] at h
    have wa := wf_ii (hw _ (.head _))
    have wb := wf_ii (hw _ (.tail _ (.head _)))
    refine ⟨Nat.le_of_ble_eq_true rfl, ?_⟩
    unfold nat_long.f at hf
    try simp only [toIs_len] at hf
    repeat' first | split at hf | (rw [Option.bind_eq_some_iff] at hf; obtain ⟨_, hy, hf⟩ := hf; try (cases hy))
    all_goals try cases hf
    all_goals try simp only [Bool.not_eq_true', Bool.not_eq_true, Bool.not_eq_false] at *
    all_goals cbv
    all_goals repeat (first | (refine Exists.intro _ (Exists.intro _ (And.intro (by (try simp only [hA, shl, shr, std, nc, wd0, wd1, wd2, wd3]); assumption) ?_)); cbv) | (refine Exists.intro _ (And.intro (by (try simp only [hA, shl, shr, std, nc, wd0, wd1, wd2, wd3]); assumption) ?_); cbv) | (refine And.intro (by (try simp only [hA, shl, shr, std, nc, wd0, wd1, wd2, wd3]); first | done | exact ix ‹_› ‹_› | exact ix (Int.le_refl 0) ‹_› | decide | exact ap4 ‹_› | exact ap8 ‹_› | exact mk4 ‹_› ‹_› | exact mk8 ‹_› ‹_› | exact ix' ‹_› ‹_› | assumption | omega) ?_; cbv) | (split <;> rename_i hz <;> (try simp only [hA, shl, shr, std, nc, wd0, wd1, wd2, wd3] at hz) <;> first | contradiction | (exfalso; omega) | (exfalso; have hz2 := hz.symm.trans ‹_ = true›; cases hz2; done) | (exfalso; have hz2 := hz.symm.trans ‹_ = false›; cases hz2; done) | cbv))
    all_goals try (refine fin1 h ?_; (try simp only [hA, shl, shr, std, nc, wd0, wd1, wd2, wd3]); first | done | rfl; done)
    · refine (loop_intro hA [(6, .keep), (7, .own (.int .u32)), (8, .row (.int .u32)), (9, .own (.int .u32)), (10, .keep)] (fun n s => ∃ u x y o p, s = st [(6, .int .i64 u), (7, .own 7 0), (8, .row (.int .u32) y), (9, .own 9 0), (10, .int .i64 p)] [(7, ⟨0, true, .arr (.int .u32) true x⟩), (9, ⟨0, true, .arr (.int .u32) true o⟩)] ∧ x = ii .u32 (toIs x) ∧ y = ii .u32 (toIs y) ∧ o = ii .u32 (toIs o) ∧ n ≤ k ∧ nat_long.l0 n u (toIs x) (toIs y) (toIs o) p = some r) k ?_ ?_)
      · cbv
        (iterate 5 apply Exists.intro); refine ⟨?_, ?_⟩; cbv; refine ⟨by ((try simp only [hA, nE, std, zE32, zE64, nc]); first | done | exact set_wf ‹_› _ _ | exact repl_ii _ _ _ | exact app_wf ‹_› _ | exact take_wf ‹_› _ | assumption | exact ii_wf _ _ | exact take_wf (ii_wf _ _) _ | rfl), ?_⟩; refine ⟨by ((try simp only [hA, nE, std, zE32, zE64, nc]); first | done | exact set_wf ‹_› _ _ | exact repl_ii _ _ _ | exact app_wf ‹_› _ | exact take_wf ‹_› _ | assumption | exact ii_wf _ _ | exact take_wf (ii_wf _ _) _ | rfl), ?_⟩; refine ⟨by ((try simp only [hA, nE, std, zE32, zE64, nc]); first | done | exact set_wf ‹_› _ _ | exact repl_ii _ _ _ | exact app_wf ‹_› _ | exact take_wf ‹_› _ | assumption | exact ii_wf _ _ | exact take_wf (ii_wf _ _) _ | rfl), ?_⟩
        refine ⟨Nat.le_refl _, ?_⟩
        simpa only [hA, shl, shr, std, nc, wd0, wd1, wd2, wd3] using hf
      · rintro n0 s ⟨u, x, y, o, p, rfl, wx, wy, wo, hle0, hi⟩
        cases n0 with
        | zero => cases hi
        | succ n0 =>
          unfold nat_long.l0 at hi
          try simp only [toIs_len] at hi
          repeat' first | split at hi | (rw [Option.bind_eq_some_iff] at hi; obtain ⟨_, hy, hi⟩ := hi; try (cases hy))
          all_goals try cases hi
          all_goals try simp only [Bool.not_eq_true', Bool.not_eq_true, Bool.not_eq_false] at *
          all_goals cbv
          all_goals repeat (first | (refine Exists.intro _ (Exists.intro _ (And.intro (by (try simp only [hA, shl, shr, std, nc, wd0, wd1, wd2, wd3]); assumption) ?_)); cbv) | (refine Exists.intro _ (And.intro (by (try simp only [hA, shl, shr, std, nc, wd0, wd1, wd2, wd3]); assumption) ?_); cbv) | (refine And.intro (by (try simp only [hA, shl, shr, std, nc, wd0, wd1, wd2, wd3]); first | done | exact ix ‹_› ‹_› | exact ix (Int.le_refl 0) ‹_› | decide | exact ap4 ‹_› | exact ap8 ‹_› | exact mk4 ‹_› ‹_› | exact mk8 ‹_› ‹_› | exact ix' ‹_› ‹_› | assumption | omega) ?_; cbv) | (split <;> rename_i hz <;> (try simp only [hA, shl, shr, std, nc, wd0, wd1, wd2, wd3] at hz) <;> first | contradiction | (exfalso; omega) | (exfalso; have hz2 := hz.symm.trans ‹_ = true›; cases hz2; done) | (exfalso; have hz2 := hz.symm.trans ‹_ = false›; cases hz2; done) | cbv))
          all_goals try (refine ⟨n0, by omega, ?_⟩; cbv; (iterate 5 apply Exists.intro); refine ⟨?_, ?_⟩; cbv; refine ⟨by ((try simp only [hA, nE, std, zE32, zE64, nc]); first | done | exact set_wf ‹_› _ _ | exact repl_ii _ _ _ | exact app_wf ‹_› _ | exact take_wf ‹_› _ | assumption | exact ii_wf _ _ | exact take_wf (ii_wf _ _) _ | rfl), ?_⟩; refine ⟨by ((try simp only [hA, nE, std, zE32, zE64, nc]); first | done | exact set_wf ‹_› _ _ | exact repl_ii _ _ _ | exact app_wf ‹_› _ | exact take_wf ‹_› _ | assumption | exact ii_wf _ _ | exact take_wf (ii_wf _ _) _ | rfl), ?_⟩; refine ⟨by ((try simp only [hA, nE, std, zE32, zE64, nc]); first | done | exact set_wf ‹_› _ _ | exact repl_ii _ _ _ | exact app_wf ‹_› _ | exact take_wf ‹_› _ | assumption | exact ii_wf _ _ | exact take_wf (ii_wf _ _) _ | rfl), ?_⟩; refine ⟨by omega, ?_⟩; simpa only [hA, shl, shr, std, nc, wd0, wd1, wd2, wd3] using hi)
          all_goals try (refine fin1 h ?_; (try simp only [hA, shl, shr, std, nc, wd0, wd1, wd2, wd3]); first | done | rfl; done)
  · exact h.elim
def spltRun (A : Lz) (args : List FV) (q : FV → FV → Prop) : Prop :=
  match args with
  | [.row (.int .u32) a, .row (.int .u32) b] => ∃ k r, nat_split.f k (toIs a) (toIs b) = some r ∧ q (.tup [.row (.int .u32) (A _ fun _ => ii .u32 r.1), .row (.int .u32) (A _ fun _ => ii .u32 r.2)]) .dead
  | _ => False
theorem splt_ok : SpecOk EV 71 ⟨false, spltRun⟩ := by
  refine .fit [.row (.int .u32), .row (.int .u32)] (spec_go (.cons (f := 57) order_ok (.cons (f := 72) cln_ok (.cons (f := 60) short_ok (.cons (f := 37) of_ok (.cons (f := 79) long_ok (.nil _)))))) (fn := Tryd.f71) rfl rfl Tryd.func71 rfl false [] _ ?_)
  rintro A hA args q0 ⟨hw, q, hq, h⟩
  unfold spltRun at h
  split at h
  · rename_i a b
    obtain ⟨k, r, hf, h⟩ := h
    try simp only [std] at h
    have wa := wf_ii (hw _ (.head _))
    have wb := wf_ii (hw _ (.tail _ (.head _)))
    refine ⟨Nat.le_of_ble_eq_true rfl, ?_⟩
    unfold nat_split.f at hf
    try simp only [toIs_len] at hf
    repeat' first | split at hf | (rw [Option.bind_eq_some_iff] at hf; obtain ⟨_, hy, hf⟩ := hf; try (cases hy))
    all_goals try cases hf
    all_goals try simp only [Bool.not_eq_true', Bool.not_eq_true, Bool.not_eq_false] at *
    all_goals cbv
    all_goals repeat (first | (refine Exists.intro _ (Exists.intro _ (And.intro (by (try simp only [hA, shl, shr, std, nc, wd0, wd1, wd2, wd3]); assumption) ?_)); cbv) | (refine Exists.intro _ (And.intro (by (try simp only [hA, shl, shr, std, nc, wd0, wd1, wd2, wd3]); assumption) ?_); cbv) | (refine And.intro (by (try simp only [hA, shl, shr, std, nc, wd0, wd1, wd2, wd3]); first | done | exact ix ‹_› ‹_› | exact ix (Int.le_refl 0) ‹_› | decide | exact ap4 ‹_› | exact ap8 ‹_› | exact mk4 ‹_› ‹_› | exact mk8 ‹_› ‹_› | exact ix' ‹_› ‹_› | assumption | omega) ?_; cbv) | (split <;> rename_i hz <;> (try simp only [hA, shl, shr, std, nc, wd0, wd1, wd2, wd3] at hz) <;> first | contradiction | (exfalso; omega) | (exfalso; have hz2 := hz.symm.trans ‹_ = true›; cases hz2; done) | (exfalso; have hz2 := hz.symm.trans ‹_ = false›; cases hz2; done) | cbv))
    all_goals (refine hq _ _ ?_; refine fin1 h ?_; (try simp only [hA, shl, shr, std, nc, wd0, wd1, wd2, wd3]); first | done | rfl)
  · exact h.elim
def gcdRun (A : Lz) (args : List FV) (q : FV → FV → Prop) : Prop :=
  match args with
  | [.row (.int .u32) a, .row (.int .u32) b] => ∃ k r, nat_Gcd.f k (toIs a) (toIs b) = some r ∧ q (.tup [.row (.int .u32) (A _ fun _ => ii .u32 r.1), .int .i64 r.2]) .dead
  | _ => False
theorem gcd_ok : SpecOk EV 58 ⟨false, gcdRun⟩ := by
  refine .fit [.row (.int .u32)] (spec_go (.cons (f := 53) rt_ok (.cons (f := 71) splt_ok (.cons (f := 72) cln_ok (.nil _)))) (fn := Tryd.f58) rfl rfl Tryd.func58 rfl false [] _ ?_)
  rintro A hA args q0 ⟨hw, q, hq, h⟩
  unfold gcdRun at h
  split at h
  · rename_i a b
    obtain ⟨k, r, hf, h⟩ := h
    try simp only [std] at h
    have wa := wf_ii (hw _ (.head _))
    have wb := wf_ii (hw _ (.tail _ (.head _)))
    refine ⟨Nat.le_of_ble_eq_true rfl, ?_⟩
    unfold nat_Gcd.f at hf
    try simp only [toIs_len] at hf
    repeat' first | split at hf | (rw [Option.bind_eq_some_iff] at hf; obtain ⟨_, hy, hf⟩ := hf; try (cases hy)) | (rcases k with _ | k <;> unfold nat_Gcd.j0 at hf <;> (try simp only [toIs_len] at hf) <;> try (cases hf; done))
    all_goals try cases hf
    all_goals try simp only [Bool.not_eq_true', Bool.not_eq_true, Bool.not_eq_false] at *
    all_goals cbv
    all_goals repeat (first | (refine Exists.intro _ (Exists.intro _ (And.intro (by (try simp only [hA, shl, shr, std, nc, wd0, wd1, wd2, wd3]); assumption) ?_)); cbv) | (refine Exists.intro _ (And.intro (by (try simp only [hA, shl, shr, std, nc, wd0, wd1, wd2, wd3]); assumption) ?_); cbv) | (refine And.intro (by (try simp only [hA, shl, shr, std, nc, wd0, wd1, wd2, wd3]); first | done | exact ix ‹_› ‹_› | exact ix (Int.le_refl 0) ‹_› | decide | exact ap4 ‹_› | exact ap8 ‹_› | exact mk4 ‹_› ‹_› | exact mk8 ‹_› ‹_› | exact ix' ‹_› ‹_› | assumption | omega) ?_; cbv) | (split <;> rename_i hz <;> (try simp only [hA, shl, shr, std, nc, wd0, wd1, wd2, wd3] at hz) <;> first | contradiction | (exfalso; omega) | (exfalso; have hz2 := hz.symm.trans ‹_ = true›; cases hz2; done) | (exfalso; have hz2 := hz.symm.trans ‹_ = false›; cases hz2; done) | cbv))
    all_goals try (refine hq _ _ ?_; refine fin1 h ?_; (try simp only [hA, shl, shr, std, nc, wd0, wd1, wd2, wd3]); first | done | rfl; done)
    · refine (loop_intro hA [(0, .row (.int .u32)), (1, .row (.int .u32))] (fun n s => ∃ a b, s = st [(0, .row (.int .u32) a), (1, .row (.int .u32) b)] [] ∧ a = ii .u32 (toIs a) ∧ b = ii .u32 (toIs b) ∧ n ≤ k ∧ nat_Gcd.l0 n (toIs a) (toIs b) = some r) k ?_ ?_)
      · cbv
        (iterate 2 apply Exists.intro); refine ⟨?_, ?_⟩; cbv; refine ⟨by ((try simp only [hA, nE, std, zE32, zE64, nc]); first | done | exact set_wf ‹_› _ _ | exact repl_ii _ _ _ | exact app_wf ‹_› _ | exact take_wf ‹_› _ | assumption | exact ii_wf _ _ | exact take_wf (ii_wf _ _) _ | rfl), ?_⟩; refine ⟨by ((try simp only [hA, nE, std, zE32, zE64, nc]); first | done | exact set_wf ‹_› _ _ | exact repl_ii _ _ _ | exact app_wf ‹_› _ | exact take_wf ‹_› _ | assumption | exact ii_wf _ _ | exact take_wf (ii_wf _ _) _ | rfl), ?_⟩
        refine ⟨Nat.le_refl _, ?_⟩
        simpa only [hA, shl, shr, std, nc, wd0, wd1, wd2, wd3] using hf
      · rintro n0 s ⟨a, b, rfl, wa, wb, hle0, hi⟩
        cases n0 with
        | zero => cases hi
        | succ n0 =>
          unfold nat_Gcd.l0 at hi
          try simp only [toIs_len] at hi
          repeat' first | split at hi | (rw [Option.bind_eq_some_iff] at hi; obtain ⟨_, hy, hi⟩ := hi; try (cases hy)) | (rcases n0 with _ | n0 <;> unfold nat_Gcd.j0 at hi <;> (try simp only [toIs_len] at hi) <;> try (cases hi; done))
          all_goals try cases hi
          all_goals try simp only [Bool.not_eq_true', Bool.not_eq_true, Bool.not_eq_false] at *
          all_goals cbv
          all_goals repeat (first | (refine Exists.intro _ (Exists.intro _ (And.intro (by (try simp only [hA, shl, shr, std, nc, wd0, wd1, wd2, wd3]); assumption) ?_)); cbv) | (refine Exists.intro _ (And.intro (by (try simp only [hA, shl, shr, std, nc, wd0, wd1, wd2, wd3]); assumption) ?_); cbv) | (refine And.intro (by (try simp only [hA, shl, shr, std, nc, wd0, wd1, wd2, wd3]); first | done | exact ix ‹_› ‹_› | exact ix (Int.le_refl 0) ‹_› | decide | exact ap4 ‹_› | exact ap8 ‹_› | exact mk4 ‹_› ‹_› | exact mk8 ‹_› ‹_› | exact ix' ‹_› ‹_› | assumption | omega) ?_; cbv) | (split <;> rename_i hz <;> (try simp only [hA, shl, shr, std, nc, wd0, wd1, wd2, wd3] at hz) <;> first | contradiction | (exfalso; omega) | (exfalso; have hz2 := hz.symm.trans ‹_ = true›; cases hz2; done) | (exfalso; have hz2 := hz.symm.trans ‹_ = false›; cases hz2; done) | cbv))
          all_goals try (refine ⟨n0, by omega, ?_⟩; cbv; (iterate 2 apply Exists.intro); refine ⟨?_, ?_⟩; cbv; refine ⟨by ((try simp only [hA, nE, std, zE32, zE64, nc]); first | done | exact set_wf ‹_› _ _ | exact repl_ii _ _ _ | exact app_wf ‹_› _ | exact take_wf ‹_› _ | assumption | exact ii_wf _ _ | exact take_wf (ii_wf _ _) _ | rfl), ?_⟩; refine ⟨by ((try simp only [hA, nE, std, zE32, zE64, nc]); first | done | exact set_wf ‹_› _ _ | exact repl_ii _ _ _ | exact app_wf ‹_› _ | exact take_wf ‹_› _ | assumption | exact ii_wf _ _ | exact take_wf (ii_wf _ _) _ | rfl), ?_⟩; refine ⟨by omega, ?_⟩; simpa only [hA, shl, shr, std, nc, wd0, wd1, wd2, wd3] using hi)
          all_goals try (refine hq _ _ ?_; refine fin1 h ?_; (try simp only [hA, shl, shr, std, nc, wd0, wd1, wd2, wd3]); first | done | rfl; done)
  · exact h.elim
def divRun (A : Lz) (args : List FV) (q : FV → FV → Prop) : Prop :=
  match args with
  | [.row (.int .u32) a, .row (.int .u32) b] => ∃ k r, nat_Div.f k (toIs a) (toIs b) = some r ∧ q (.tup [.row (.int .u32) (A _ fun _ => ii .u32 r.1), .row (.int .u32) (A _ fun _ => ii .u32 r.2.1), .int .i64 r.2.2]) .dead
  | _ => False
theorem div_ok : SpecOk EV 68 ⟨false, divRun⟩ := by
  refine .fit [.row (.int .u32), .row (.int .u32)] (spec_go (.cons (f := 53) rt_ok (.cons (f := 71) splt_ok (.nil _))) (fn := Tryd.f68) rfl rfl Tryd.func68 rfl false [] _ ?_)
  rintro A hA args q0 ⟨hw, q, hq, h⟩
  unfold divRun at h
  split at h
  · rename_i a b
    obtain ⟨k, r, hf, h⟩ := h
    try simp only [std] at h
    have wa := wf_ii (hw _ (.head _))
    have wb := wf_ii (hw _ (.tail _ (.head _)))
    refine ⟨Nat.le_of_ble_eq_true rfl, ?_⟩
    unfold nat_Div.f at hf
    try simp only [toIs_len] at hf
    repeat' first | split at hf | (rw [Option.bind_eq_some_iff] at hf; obtain ⟨_, hy, hf⟩ := hf; try (cases hy)) | (rcases k with _ | k <;> unfold nat_Div.j0 at hf <;> (try simp only [toIs_len] at hf) <;> try (cases hf; done))
    all_goals try cases hf
    all_goals try simp only [Bool.not_eq_true', Bool.not_eq_true, Bool.not_eq_false] at *
    all_goals cbv
    all_goals repeat (first | (refine Exists.intro _ (Exists.intro _ (And.intro (by (try simp only [hA, shl, shr, std, nc, wd0, wd1, wd2, wd3]); assumption) ?_)); cbv) | (refine Exists.intro _ (And.intro (by (try simp only [hA, shl, shr, std, nc, wd0, wd1, wd2, wd3]); assumption) ?_); cbv) | (refine And.intro (by (try simp only [hA, shl, shr, std, nc, wd0, wd1, wd2, wd3]); first | done | exact ix ‹_› ‹_› | exact ix (Int.le_refl 0) ‹_› | decide | exact ap4 ‹_› | exact ap8 ‹_› | exact mk4 ‹_› ‹_› | exact mk8 ‹_› ‹_› | exact ix' ‹_› ‹_› | assumption | omega) ?_; cbv) | (split <;> rename_i hz <;> (try simp only [hA, shl, shr, std, nc, wd0, wd1, wd2, wd3] at hz) <;> first | contradiction | (exfalso; omega) | (exfalso; have hz2 := hz.symm.trans ‹_ = true›; cases hz2; done) | (exfalso; have hz2 := hz.symm.trans ‹_ = false›; cases hz2; done) | cbv))
    all_goals (refine hq _ _ ?_; refine fin1 h ?_; (try simp only [hA, shl, shr, std, nc, wd0, wd1, wd2, wd3]); first | done | rfl)
  · exact h.elim
end Go.Proofs.YtmndbhgbngkakaaDoor.Z
end
