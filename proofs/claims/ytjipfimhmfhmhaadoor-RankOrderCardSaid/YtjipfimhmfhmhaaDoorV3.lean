/- The program's naturals over plain data. No condition. -/
import Derived.Test.YtjipfimhmfhmhaaDoorV2
namespace Go.Proofs.YtjipfimhmfhmhaaDoor.Z
open Go Go.RowKit Go.Proofs.YtjipfimhmfhmhaaDoor.E Go.Proofs.YtjipfimhmfhmhaaDoor.G Go.Proofs.YtjipfimhmfhmhaaDoor.K Go.Proofs.YtjipfimhmfhmhaaDoor.F
open Go.Proofs.YtjipfimhmfhmhaaDoorW.PrintWords hiding rd
set_option linter.all false

set_option maxRecDepth 100000
set_option maxHeartbeats 4000000
def atRun (A : Lz) (args : List FV) (q : FV → FV → Prop) : Prop :=
  match args with
  | [.row (.int .u32) a, .int .i64 i] => ∃ r, nat_at.f (toIs a) i = some r ∧ q (.int .u64 r) .dead
  | _ => False
theorem at_ok : SpecOk EV 124 ⟨false, atRun⟩ := by
  refine .shaped 4 (spec_go (.nil _) (fn := Tryd.f124) rfl rfl Tryd.func124 rfl false [] _ ?_)
  rintro A hA args q ⟨hw, h⟩
  unfold atRun at h
  split at h
  · rename_i a i
    obtain ⟨r, hf, h⟩ := h
    try simp only [std] at h
    have wa := wf_ii (hw _ (.head _))
    refine ⟨Nat.le_of_ble_eq_true rfl, ?_⟩
    unfold nat_at.f at hf
    try simp only [toIs_len] at hf
    repeat' first | split at hf | (rw [Option.bind_eq_some_iff] at hf; obtain ⟨_, hy, hf⟩ := hf; try (cases hy))
    all_goals try cases hf
    all_goals try simp only [Bool.not_eq_true', Bool.not_eq_true, Bool.not_eq_false] at *
    all_goals cbv
    all_goals repeat (first | (refine Exists.intro _ (Exists.intro _ (And.intro (by (try simp only [List.length_replicate, Int.zero_tmod, toIs_ii, ii_len, Int.zero_tdiv, w0, hA, nE, shl, shr, std, zE32, zE64, nc, nth_rd', i64w, u32_wrap, p32, p31, p63, w6432, toIs_len, set_toIs, repl_toIs, app_toIs, tos1, tos0, p1, take_toIs, drop_toIs, ieq_iff, ieq_iff', ilt_iff, ilt_iff', ile_iff, ile_iff', gt_iff_lt, ge_iff_le, Bool.not_eq_true', Bool.not_eq_false', List.drop_zero, Nat.sub_zero]); assumption) ?_)); cbv) | (refine Exists.intro _ (And.intro (by (try simp only [List.length_replicate, Int.zero_tmod, toIs_ii, ii_len, Int.zero_tdiv, w0, hA, nE, shl, shr, std, zE32, zE64, nc, nth_rd', i64w, u32_wrap, p32, p31, p63, w6432, toIs_len, set_toIs, repl_toIs, app_toIs, tos1, tos0, p1, take_toIs, drop_toIs, ieq_iff, ieq_iff', ilt_iff, ilt_iff', ile_iff, ile_iff', gt_iff_lt, ge_iff_le, Bool.not_eq_true', Bool.not_eq_false', List.drop_zero, Nat.sub_zero]); assumption) ?_); cbv) | (refine And.intro (by (try simp only [List.length_replicate, Int.zero_tmod, toIs_ii, ii_len, Int.zero_tdiv, w0, hA, nE, shl, shr, std, zE32, zE64, nc, nth_rd', i64w, u32_wrap, p32, p31, p63, w6432, toIs_len, set_toIs, repl_toIs, app_toIs, tos1, tos0, p1, take_toIs, drop_toIs, ieq_iff, ieq_iff', ilt_iff, ilt_iff', ile_iff, ile_iff', gt_iff_lt, ge_iff_le, Bool.not_eq_true', Bool.not_eq_false', List.drop_zero, Nat.sub_zero]); first | done | exact ix ‹_› ‹_› | exact ix (Int.le_refl 0) ‹_› | decide | exact ap4 ‹_› | exact ap8 ‹_› | exact mk4 ‹_› ‹_› | exact mk8 ‹_› ‹_› | exact ix' ‹_› ‹_› | assumption | omega) ?_; cbv) | (split <;> rename_i hz <;> (try simp only [List.length_replicate, Int.zero_tmod, toIs_ii, ii_len, Int.zero_tdiv, w0, hA, nE, shl, shr, std, zE32, zE64, nc, nth_rd', i64w, u32_wrap, p32, p31, p63, w6432, toIs_len, set_toIs, repl_toIs, app_toIs, tos1, tos0, p1, take_toIs, drop_toIs, ieq_iff, ieq_iff', ilt_iff, ilt_iff', ile_iff, ile_iff', gt_iff_lt, ge_iff_le, Bool.not_eq_true', Bool.not_eq_false', List.drop_zero, Nat.sub_zero] at hz) <;> first | contradiction | (exfalso; omega) | (exfalso; have hz2 := hz.symm.trans ‹_ = true›; cases hz2; done) | (exfalso; have hz2 := hz.symm.trans ‹_ = false›; cases hz2; done) | cbv))
    all_goals (refine fin_int h ?_; (try simp only [List.length_replicate, Int.zero_tmod, toIs_ii, ii_len, Int.zero_tdiv, w0, hA, nE, shl, shr, std, zE32, zE64, nc, nth_rd', i64w, u32_wrap, p32, p31, p63, w6432, toIs_len, set_toIs, repl_toIs, app_toIs, tos1, tos0, p1, take_toIs, drop_toIs, ieq_iff, ieq_iff', ilt_iff, ilt_iff', ile_iff, ile_iff', gt_iff_lt, ge_iff_le, Bool.not_eq_true', Bool.not_eq_false', List.drop_zero, Nat.sub_zero]))
  · exact h.elim
def ofRun (A : Lz) (args : List FV) (q : FV → FV → Prop) : Prop :=
  match args with
  | [.int .u64 x] => ∃ k r, nat_Of.f k x = some r ∧ q (.row (.int .u32) (A _ fun _ => ii .u32 r)) .dead
  | _ => False
theorem of_ok : SpecOk EV 41 ⟨false, ofRun⟩ := by
  refine .shaped 4 (spec_go (.cons (f := 66) trim_ok (.nil _)) (fn := Tryd.f41) rfl rfl Tryd.func41 rfl false [] _ ?_)
  rintro A hA args q ⟨hw, h⟩
  unfold ofRun at h
  split at h
  · rename_i x
    obtain ⟨k, r, hf, h⟩ := h
    try simp only [std] at h
    refine ⟨Nat.le_of_ble_eq_true rfl, ?_⟩
    unfold nat_Of.f at hf
    try simp only [toIs_len] at hf
    repeat' first | split at hf | (rw [Option.bind_eq_some_iff] at hf; obtain ⟨_, hy, hf⟩ := hf; try (cases hy))
    all_goals try cases hf
    all_goals try simp only [Bool.not_eq_true', Bool.not_eq_true, Bool.not_eq_false] at *
    all_goals cbv
    all_goals repeat (first | (refine Exists.intro _ (Exists.intro _ (And.intro (by (try simp only [List.length_replicate, Int.zero_tmod, toIs_ii, ii_len, Int.zero_tdiv, w0, hA, nE, shl, shr, std, zE32, zE64, nc, nth_rd', i64w, u32_wrap, p32, p31, p63, w6432, toIs_len, set_toIs, repl_toIs, app_toIs, tos1, tos0, p1, take_toIs, drop_toIs, ieq_iff, ieq_iff', ilt_iff, ilt_iff', ile_iff, ile_iff', gt_iff_lt, ge_iff_le, Bool.not_eq_true', Bool.not_eq_false', List.drop_zero, Nat.sub_zero]); assumption) ?_)); cbv) | (refine Exists.intro _ (And.intro (by (try simp only [List.length_replicate, Int.zero_tmod, toIs_ii, ii_len, Int.zero_tdiv, w0, hA, nE, shl, shr, std, zE32, zE64, nc, nth_rd', i64w, u32_wrap, p32, p31, p63, w6432, toIs_len, set_toIs, repl_toIs, app_toIs, tos1, tos0, p1, take_toIs, drop_toIs, ieq_iff, ieq_iff', ilt_iff, ilt_iff', ile_iff, ile_iff', gt_iff_lt, ge_iff_le, Bool.not_eq_true', Bool.not_eq_false', List.drop_zero, Nat.sub_zero]); assumption) ?_); cbv) | (refine And.intro (by (try simp only [List.length_replicate, Int.zero_tmod, toIs_ii, ii_len, Int.zero_tdiv, w0, hA, nE, shl, shr, std, zE32, zE64, nc, nth_rd', i64w, u32_wrap, p32, p31, p63, w6432, toIs_len, set_toIs, repl_toIs, app_toIs, tos1, tos0, p1, take_toIs, drop_toIs, ieq_iff, ieq_iff', ilt_iff, ilt_iff', ile_iff, ile_iff', gt_iff_lt, ge_iff_le, Bool.not_eq_true', Bool.not_eq_false', List.drop_zero, Nat.sub_zero]); first | done | exact ix ‹_› ‹_› | exact ix (Int.le_refl 0) ‹_› | decide | exact ap4 ‹_› | exact ap8 ‹_› | exact mk4 ‹_› ‹_› | exact mk8 ‹_› ‹_› | exact ix' ‹_› ‹_› | assumption | omega) ?_; cbv) | (split <;> rename_i hz <;> (try simp only [List.length_replicate, Int.zero_tmod, toIs_ii, ii_len, Int.zero_tdiv, w0, hA, nE, shl, shr, std, zE32, zE64, nc, nth_rd', i64w, u32_wrap, p32, p31, p63, w6432, toIs_len, set_toIs, repl_toIs, app_toIs, tos1, tos0, p1, take_toIs, drop_toIs, ieq_iff, ieq_iff', ilt_iff, ilt_iff', ile_iff, ile_iff', gt_iff_lt, ge_iff_le, Bool.not_eq_true', Bool.not_eq_false', List.drop_zero, Nat.sub_zero] at hz) <;> first | contradiction | (exfalso; omega) | (exfalso; have hz2 := hz.symm.trans ‹_ = true›; cases hz2; done) | (exfalso; have hz2 := hz.symm.trans ‹_ = false›; cases hz2; done) | cbv))
    all_goals (refine fin1 h ?_; (try simp only [List.length_replicate, Int.zero_tmod, toIs_ii, ii_len, Int.zero_tdiv, w0, hA, nE, shl, shr, std, zE32, zE64, nc, nth_rd', i64w, u32_wrap, p32, p31, p63, w6432, toIs_len, set_toIs, repl_toIs, app_toIs, tos1, tos0, p1, take_toIs, drop_toIs, ieq_iff, ieq_iff', ilt_iff, ilt_iff', ile_iff, ile_iff', gt_iff_lt, ge_iff_le, Bool.not_eq_true', Bool.not_eq_false', List.drop_zero, Nat.sub_zero]); first | done | rfl)
  · exact h.elim
def shortRun (A : Lz) (args : List FV) (q : FV → FV → Prop) : Prop :=
  match args with
  | [.row (.int .u32) a, .int .u32 b] => ∃ k r, nat_short.f k (toIs a) b = some r ∧ q (.tup [.row (.int .u32) (A _ fun _ => ii .u32 r.1), .int .u32 r.2]) .dead
  | _ => False
theorem short_ok : SpecOk EV 88 ⟨false, shortRun⟩ := by
  refine .shaped 4 (spec_go (.cons (f := 66) trim_ok (.nil _)) (fn := Tryd.f88) rfl rfl Tryd.func88 rfl false [] _ ?_)
  rintro A hA args q ⟨hw, h⟩
  unfold shortRun at h
  split at h
  · rename_i a b
    obtain ⟨k, r, hf, h⟩ := h
    try simp only [std] at h
    have wa := wf_ii (hw _ (.head _))
    refine ⟨Nat.le_of_ble_eq_true rfl, ?_⟩
    unfold nat_short.f at hf
    try simp only [toIs_len] at hf
    repeat' first | split at hf | (rw [Option.bind_eq_some_iff] at hf; obtain ⟨_, hy, hf⟩ := hf; try (cases hy))
    all_goals try cases hf
    all_goals try simp only [Bool.not_eq_true', Bool.not_eq_true, Bool.not_eq_false] at *
    all_goals cbv
    all_goals repeat (first | (refine Exists.intro _ (Exists.intro _ (And.intro (by (try simp only [List.length_replicate, Int.zero_tmod, toIs_ii, ii_len, Int.zero_tdiv, w0, hA, nE, shl, shr, std, zE32, zE64, nc, nth_rd', i64w, u32_wrap, p32, p31, p63, w6432, toIs_len, set_toIs, repl_toIs, app_toIs, tos1, tos0, p1, take_toIs, drop_toIs, ieq_iff, ieq_iff', ilt_iff, ilt_iff', ile_iff, ile_iff', gt_iff_lt, ge_iff_le, Bool.not_eq_true', Bool.not_eq_false', List.drop_zero, Nat.sub_zero]); assumption) ?_)); cbv) | (refine Exists.intro _ (And.intro (by (try simp only [List.length_replicate, Int.zero_tmod, toIs_ii, ii_len, Int.zero_tdiv, w0, hA, nE, shl, shr, std, zE32, zE64, nc, nth_rd', i64w, u32_wrap, p32, p31, p63, w6432, toIs_len, set_toIs, repl_toIs, app_toIs, tos1, tos0, p1, take_toIs, drop_toIs, ieq_iff, ieq_iff', ilt_iff, ilt_iff', ile_iff, ile_iff', gt_iff_lt, ge_iff_le, Bool.not_eq_true', Bool.not_eq_false', List.drop_zero, Nat.sub_zero]); assumption) ?_); cbv) | (refine And.intro (by (try simp only [List.length_replicate, Int.zero_tmod, toIs_ii, ii_len, Int.zero_tdiv, w0, hA, nE, shl, shr, std, zE32, zE64, nc, nth_rd', i64w, u32_wrap, p32, p31, p63, w6432, toIs_len, set_toIs, repl_toIs, app_toIs, tos1, tos0, p1, take_toIs, drop_toIs, ieq_iff, ieq_iff', ilt_iff, ilt_iff', ile_iff, ile_iff', gt_iff_lt, ge_iff_le, Bool.not_eq_true', Bool.not_eq_false', List.drop_zero, Nat.sub_zero]); first | done | exact ix ‹_› ‹_› | exact ix (Int.le_refl 0) ‹_› | decide | exact ap4 ‹_› | exact ap8 ‹_› | exact mk4 ‹_› ‹_› | exact mk8 ‹_› ‹_› | exact ix' ‹_› ‹_› | assumption | omega) ?_; cbv) | (split <;> rename_i hz <;> (try simp only [List.length_replicate, Int.zero_tmod, toIs_ii, ii_len, Int.zero_tdiv, w0, hA, nE, shl, shr, std, zE32, zE64, nc, nth_rd', i64w, u32_wrap, p32, p31, p63, w6432, toIs_len, set_toIs, repl_toIs, app_toIs, tos1, tos0, p1, take_toIs, drop_toIs, ieq_iff, ieq_iff', ilt_iff, ilt_iff', ile_iff, ile_iff', gt_iff_lt, ge_iff_le, Bool.not_eq_true', Bool.not_eq_false', List.drop_zero, Nat.sub_zero] at hz) <;> first | contradiction | (exfalso; omega) | (exfalso; have hz2 := hz.symm.trans ‹_ = true›; cases hz2; done) | (exfalso; have hz2 := hz.symm.trans ‹_ = false›; cases hz2; done) | cbv))
    all_goals try (refine fin1 h ?_; (try simp only [List.length_replicate, Int.zero_tmod, toIs_ii, ii_len, Int.zero_tdiv, w0, hA, nE, shl, shr, std, zE32, zE64, nc, nth_rd', i64w, u32_wrap, p32, p31, p63, w6432, toIs_len, set_toIs, repl_toIs, app_toIs, tos1, tos0, p1, take_toIs, drop_toIs, ieq_iff, ieq_iff', ilt_iff, ilt_iff', ile_iff, ile_iff', gt_iff_lt, ge_iff_le, Bool.not_eq_true', Bool.not_eq_false', List.drop_zero, Nat.sub_zero]); first | done | rfl; done)
    · refine (loop_intro hA [(0, .keep), (1, .keep), (6, .own (.int .u32)), (7, .keep), (8, .keep)] (fun n s => ∃ o y i, s = st [(0, .row (.int .u32) a), (1, .int .u32 b), (6, .own 6 0), (7, .int .u64 y), (8, .int .i64 i)] [(6, ⟨0, true, .arr (.int .u32) true o⟩)] ∧ o = ii .u32 (toIs o) ∧ n ≤ k ∧ nat_short.l0 n (toIs a) b (toIs o) y i = some r) k ?_ ?_)
      · cbv
        (iterate 3 apply Exists.intro); refine ⟨?_, ?_⟩; cbv; refine ⟨by ((try simp only [hA, nE, std, zE32, zE64, nc]); first | done | exact set_wf ‹_› _ _ | exact repl_ii _ _ _ | exact app_wf ‹_› _ | exact take_wf ‹_› _ | assumption | exact ii_wf _ _ | exact take_wf (ii_wf _ _) _ | rfl), ?_⟩
        refine ⟨Nat.le_refl _, ?_⟩
        simpa only [List.length_replicate, Int.zero_tmod, toIs_ii, ii_len, Int.zero_tdiv, w0, hA, nE, shl, shr, std, zE32, zE64, nc, nth_rd', i64w, u32_wrap, p32, p31, p63, w6432, toIs_len, set_toIs, repl_toIs, app_toIs, tos1, tos0, p1, take_toIs, drop_toIs, ieq_iff, ieq_iff', ilt_iff, ilt_iff', ile_iff, ile_iff', gt_iff_lt, ge_iff_le, Bool.not_eq_true', Bool.not_eq_false', List.drop_zero, Nat.sub_zero] using hf
      · rintro n0 s ⟨o, y, i, rfl, wo, hle0, hi⟩
        cases n0 with
        | zero => cases hi
        | succ n0 =>
          unfold nat_short.l0 at hi
          try simp only [toIs_len] at hi
          repeat' first | split at hi | (rw [Option.bind_eq_some_iff] at hi; obtain ⟨_, hy, hi⟩ := hi; try (cases hy))
          all_goals try cases hi
          all_goals try simp only [Bool.not_eq_true', Bool.not_eq_true, Bool.not_eq_false] at *
          all_goals cbv
          all_goals repeat (first | (refine Exists.intro _ (Exists.intro _ (And.intro (by (try simp only [List.length_replicate, Int.zero_tmod, toIs_ii, ii_len, Int.zero_tdiv, w0, hA, nE, shl, shr, std, zE32, zE64, nc, nth_rd', i64w, u32_wrap, p32, p31, p63, w6432, toIs_len, set_toIs, repl_toIs, app_toIs, tos1, tos0, p1, take_toIs, drop_toIs, ieq_iff, ieq_iff', ilt_iff, ilt_iff', ile_iff, ile_iff', gt_iff_lt, ge_iff_le, Bool.not_eq_true', Bool.not_eq_false', List.drop_zero, Nat.sub_zero]); assumption) ?_)); cbv) | (refine Exists.intro _ (And.intro (by (try simp only [List.length_replicate, Int.zero_tmod, toIs_ii, ii_len, Int.zero_tdiv, w0, hA, nE, shl, shr, std, zE32, zE64, nc, nth_rd', i64w, u32_wrap, p32, p31, p63, w6432, toIs_len, set_toIs, repl_toIs, app_toIs, tos1, tos0, p1, take_toIs, drop_toIs, ieq_iff, ieq_iff', ilt_iff, ilt_iff', ile_iff, ile_iff', gt_iff_lt, ge_iff_le, Bool.not_eq_true', Bool.not_eq_false', List.drop_zero, Nat.sub_zero]); assumption) ?_); cbv) | (refine And.intro (by (try simp only [List.length_replicate, Int.zero_tmod, toIs_ii, ii_len, Int.zero_tdiv, w0, hA, nE, shl, shr, std, zE32, zE64, nc, nth_rd', i64w, u32_wrap, p32, p31, p63, w6432, toIs_len, set_toIs, repl_toIs, app_toIs, tos1, tos0, p1, take_toIs, drop_toIs, ieq_iff, ieq_iff', ilt_iff, ilt_iff', ile_iff, ile_iff', gt_iff_lt, ge_iff_le, Bool.not_eq_true', Bool.not_eq_false', List.drop_zero, Nat.sub_zero]); first | done | exact ix ‹_› ‹_› | exact ix (Int.le_refl 0) ‹_› | decide | exact ap4 ‹_› | exact ap8 ‹_› | exact mk4 ‹_› ‹_› | exact mk8 ‹_› ‹_› | exact ix' ‹_› ‹_› | assumption | omega) ?_; cbv) | (split <;> rename_i hz <;> (try simp only [List.length_replicate, Int.zero_tmod, toIs_ii, ii_len, Int.zero_tdiv, w0, hA, nE, shl, shr, std, zE32, zE64, nc, nth_rd', i64w, u32_wrap, p32, p31, p63, w6432, toIs_len, set_toIs, repl_toIs, app_toIs, tos1, tos0, p1, take_toIs, drop_toIs, ieq_iff, ieq_iff', ilt_iff, ilt_iff', ile_iff, ile_iff', gt_iff_lt, ge_iff_le, Bool.not_eq_true', Bool.not_eq_false', List.drop_zero, Nat.sub_zero] at hz) <;> first | contradiction | (exfalso; omega) | (exfalso; have hz2 := hz.symm.trans ‹_ = true›; cases hz2; done) | (exfalso; have hz2 := hz.symm.trans ‹_ = false›; cases hz2; done) | cbv))
          all_goals try (refine ⟨n0, by omega, ?_⟩; cbv; (iterate 3 apply Exists.intro); refine ⟨?_, ?_⟩; cbv; refine ⟨by ((try simp only [hA, nE, std, zE32, zE64, nc]); first | done | exact set_wf ‹_› _ _ | exact repl_ii _ _ _ | exact app_wf ‹_› _ | exact take_wf ‹_› _ | assumption | exact ii_wf _ _ | exact take_wf (ii_wf _ _) _ | rfl), ?_⟩; refine ⟨by omega, ?_⟩; simpa only [List.length_replicate, Int.zero_tmod, toIs_ii, ii_len, Int.zero_tdiv, w0, hA, nE, shl, shr, std, zE32, zE64, nc, nth_rd', i64w, u32_wrap, p32, p31, p63, w6432, toIs_len, set_toIs, repl_toIs, app_toIs, tos1, tos0, p1, take_toIs, drop_toIs, ieq_iff, ieq_iff', ilt_iff, ilt_iff', ile_iff, ile_iff', gt_iff_lt, ge_iff_le, Bool.not_eq_true', Bool.not_eq_false', List.drop_zero, Nat.sub_zero] using hi)
          all_goals try (refine fin1 h ?_; (try simp only [List.length_replicate, Int.zero_tmod, toIs_ii, ii_len, Int.zero_tdiv, w0, hA, nE, shl, shr, std, zE32, zE64, nc, nth_rd', i64w, u32_wrap, p32, p31, p63, w6432, toIs_len, set_toIs, repl_toIs, app_toIs, tos1, tos0, p1, take_toIs, drop_toIs, ieq_iff, ieq_iff', ilt_iff, ilt_iff', ile_iff, ile_iff', gt_iff_lt, ge_iff_le, Bool.not_eq_true', Bool.not_eq_false', List.drop_zero, Nat.sub_zero]); first | done | rfl; done)
  · exact h.elim
def keptRun (A : Lz) (args : List FV) (q : FV → FV → Prop) : Prop :=
  match args with
  | [.row (.int .u32) a] => ∃ r, nat_kept.f (toIs a) = some r ∧ q (.tup [.row (.int .u32) (A _ fun _ => ii .u32 r.1), .int .i64 r.2]) .dead
  | _ => False
theorem kept_ok : SpecOk EV 97 ⟨false, keptRun⟩ := by
  refine .fit [.row (.int .u32)] (spec_go (.nil _) (fn := Tryd.f97) rfl rfl Tryd.func97 rfl false [] _ ?_)
  rintro A hA args q0 ⟨hw, q, hq, h⟩
  unfold keptRun at h
  split at h
  · rename_i a
    obtain ⟨r, hf, h⟩ := h
    try simp only [std] at h
    have wa := wf_ii (hw _ (.head _))
    refine ⟨Nat.le_of_ble_eq_true rfl, ?_⟩
    unfold nat_kept.f at hf
    try simp only [toIs_len] at hf
    repeat' first | split at hf | (rw [Option.bind_eq_some_iff] at hf; obtain ⟨_, hy, hf⟩ := hf; try (cases hy))
    all_goals try cases hf
    all_goals try simp only [Bool.not_eq_true', Bool.not_eq_true, Bool.not_eq_false] at *
    all_goals cbv
    all_goals repeat (first | (refine Exists.intro _ (Exists.intro _ (And.intro (by (try simp only [List.length_replicate, Int.zero_tmod, toIs_ii, ii_len, Int.zero_tdiv, w0, hA, nE, shl, shr, std, zE32, zE64, nc, nth_rd', i64w, u32_wrap, p32, p31, p63, w6432, toIs_len, set_toIs, repl_toIs, app_toIs, tos1, tos0, p1, take_toIs, drop_toIs, ieq_iff, ieq_iff', ilt_iff, ilt_iff', ile_iff, ile_iff', gt_iff_lt, ge_iff_le, Bool.not_eq_true', Bool.not_eq_false', List.drop_zero, Nat.sub_zero]); assumption) ?_)); cbv) | (refine Exists.intro _ (And.intro (by (try simp only [List.length_replicate, Int.zero_tmod, toIs_ii, ii_len, Int.zero_tdiv, w0, hA, nE, shl, shr, std, zE32, zE64, nc, nth_rd', i64w, u32_wrap, p32, p31, p63, w6432, toIs_len, set_toIs, repl_toIs, app_toIs, tos1, tos0, p1, take_toIs, drop_toIs, ieq_iff, ieq_iff', ilt_iff, ilt_iff', ile_iff, ile_iff', gt_iff_lt, ge_iff_le, Bool.not_eq_true', Bool.not_eq_false', List.drop_zero, Nat.sub_zero]); assumption) ?_); cbv) | (refine And.intro (by (try simp only [List.length_replicate, Int.zero_tmod, toIs_ii, ii_len, Int.zero_tdiv, w0, hA, nE, shl, shr, std, zE32, zE64, nc, nth_rd', i64w, u32_wrap, p32, p31, p63, w6432, toIs_len, set_toIs, repl_toIs, app_toIs, tos1, tos0, p1, take_toIs, drop_toIs, ieq_iff, ieq_iff', ilt_iff, ilt_iff', ile_iff, ile_iff', gt_iff_lt, ge_iff_le, Bool.not_eq_true', Bool.not_eq_false', List.drop_zero, Nat.sub_zero]); first | done | exact ix ‹_› ‹_› | exact ix (Int.le_refl 0) ‹_› | decide | exact ap4 ‹_› | exact ap8 ‹_› | exact mk4 ‹_› ‹_› | exact mk8 ‹_› ‹_› | exact ix' ‹_› ‹_› | assumption | omega) ?_; cbv) | (split <;> rename_i hz <;> (try simp only [List.length_replicate, Int.zero_tmod, toIs_ii, ii_len, Int.zero_tdiv, w0, hA, nE, shl, shr, std, zE32, zE64, nc, nth_rd', i64w, u32_wrap, p32, p31, p63, w6432, toIs_len, set_toIs, repl_toIs, app_toIs, tos1, tos0, p1, take_toIs, drop_toIs, ieq_iff, ieq_iff', ilt_iff, ilt_iff', ile_iff, ile_iff', gt_iff_lt, ge_iff_le, Bool.not_eq_true', Bool.not_eq_false', List.drop_zero, Nat.sub_zero] at hz) <;> first | contradiction | (exfalso; omega) | (exfalso; have hz2 := hz.symm.trans ‹_ = true›; cases hz2; done) | (exfalso; have hz2 := hz.symm.trans ‹_ = false›; cases hz2; done) | cbv))
    all_goals (refine hq _ _ ?_; refine fin1 h ?_; first | rfl | exact congrArg (fun l => FV.tup [.row (.int .u32) l, .int .i64 0]) wa)
  · exact h.elim
def shiftRun (A : Lz) (args : List FV) (q : FV → FV → Prop) : Prop :=
  match args with
  | [.row (.int .u32) a, .int .i64 u] => ∃ k r, nat_shift.f k (toIs a) u = some r ∧ q (.new (.int .u32) (A _ fun _ => ii .u32 r)) .dead
  | _ => False
theorem shift_ok : SpecOk EV 116 ⟨false, shiftRun⟩ := by
  refine .shaped 4 (spec_go (.nil _) (fn := Tryd.f116) rfl rfl Tryd.func116 rfl false [true] _ ?_)
  rintro A hA args q ⟨hw, h⟩
  unfold shiftRun at h
  split at h
  · rename_i a u
    obtain ⟨k, r, hf, h⟩ := h
    try simp only [std] at h
    have wa := wf_ii (hw _ (.head _))
    refine ⟨Nat.le_of_ble_eq_true rfl, ?_⟩
    unfold nat_shift.f at hf
    try simp only [toIs_len] at hf
    repeat' first | split at hf | (rw [Option.bind_eq_some_iff] at hf; obtain ⟨_, hy, hf⟩ := hf; try (cases hy))
    all_goals try cases hf
    all_goals try simp only [Bool.not_eq_true', Bool.not_eq_true, Bool.not_eq_false] at *
    all_goals cbv
    all_goals repeat (first | (refine Exists.intro _ (Exists.intro _ (And.intro (by (try simp only [List.length_replicate, Int.zero_tmod, toIs_ii, ii_len, Int.zero_tdiv, w0, hA, nE, shl, shr, std, zE32, zE64, nc, nth_rd', i64w, u32_wrap, p32, p31, p63, w6432, toIs_len, set_toIs, repl_toIs, app_toIs, tos1, tos0, p1, take_toIs, drop_toIs, ieq_iff, ieq_iff', ilt_iff, ilt_iff', ile_iff, ile_iff', gt_iff_lt, ge_iff_le, Bool.not_eq_true', Bool.not_eq_false', List.drop_zero, Nat.sub_zero]); assumption) ?_)); cbv) | (refine Exists.intro _ (And.intro (by (try simp only [List.length_replicate, Int.zero_tmod, toIs_ii, ii_len, Int.zero_tdiv, w0, hA, nE, shl, shr, std, zE32, zE64, nc, nth_rd', i64w, u32_wrap, p32, p31, p63, w6432, toIs_len, set_toIs, repl_toIs, app_toIs, tos1, tos0, p1, take_toIs, drop_toIs, ieq_iff, ieq_iff', ilt_iff, ilt_iff', ile_iff, ile_iff', gt_iff_lt, ge_iff_le, Bool.not_eq_true', Bool.not_eq_false', List.drop_zero, Nat.sub_zero]); assumption) ?_); cbv) | (refine And.intro (by (try simp only [List.length_replicate, Int.zero_tmod, toIs_ii, ii_len, Int.zero_tdiv, w0, hA, nE, shl, shr, std, zE32, zE64, nc, nth_rd', i64w, u32_wrap, p32, p31, p63, w6432, toIs_len, set_toIs, repl_toIs, app_toIs, tos1, tos0, p1, take_toIs, drop_toIs, ieq_iff, ieq_iff', ilt_iff, ilt_iff', ile_iff, ile_iff', gt_iff_lt, ge_iff_le, Bool.not_eq_true', Bool.not_eq_false', List.drop_zero, Nat.sub_zero]); first | done | exact ix ‹_› ‹_› | exact ix (Int.le_refl 0) ‹_› | decide | exact ap4 ‹_› | exact ap8 ‹_› | exact mk4 ‹_› ‹_› | exact mk8 ‹_› ‹_› | exact ix' ‹_› ‹_› | assumption | omega) ?_; cbv) | (split <;> rename_i hz <;> (try simp only [List.length_replicate, Int.zero_tmod, toIs_ii, ii_len, Int.zero_tdiv, w0, hA, nE, shl, shr, std, zE32, zE64, nc, nth_rd', i64w, u32_wrap, p32, p31, p63, w6432, toIs_len, set_toIs, repl_toIs, app_toIs, tos1, tos0, p1, take_toIs, drop_toIs, ieq_iff, ieq_iff', ilt_iff, ilt_iff', ile_iff, ile_iff', gt_iff_lt, ge_iff_le, Bool.not_eq_true', Bool.not_eq_false', List.drop_zero, Nat.sub_zero] at hz) <;> first | contradiction | (exfalso; omega) | (exfalso; have hz2 := hz.symm.trans ‹_ = true›; cases hz2; done) | (exfalso; have hz2 := hz.symm.trans ‹_ = false›; cases hz2; done) | cbv))
    all_goals try (refine fin_new h ?_; (try simp only [List.length_replicate, Int.zero_tmod, toIs_ii, ii_len, Int.zero_tdiv, w0, hA, nE, shl, shr, std, zE32, zE64, nc, nth_rd', i64w, u32_wrap, p32, p31, p63, w6432, toIs_len, set_toIs, repl_toIs, app_toIs, tos1, tos0, p1, take_toIs, drop_toIs, ieq_iff, ieq_iff', ilt_iff, ilt_iff', ile_iff, ile_iff', gt_iff_lt, ge_iff_le, Bool.not_eq_true', Bool.not_eq_false', List.drop_zero, Nat.sub_zero]); first | rfl | exact set_ii' ‹_› _ _; done)
    · refine (loop_intro hA [(0, .keep), (1, .keep), (5, .own (.int .u32)), (6, .keep), (13, .keep), (14, .keep), (15, .keep)] (fun n s => ∃ o y e i, s = st [(0, .row (.int .u32) a), (1, .int .i64 u), (5, .own 5 0), (6, .int .u32 y), (13, .row (.int .u32) a), (14, .int .i64 e), (15, .int .i64 i)] [(5, ⟨0, true, .arr (.int .u32) true o⟩)] ∧ o = ii .u32 (toIs o) ∧ n ≤ k ∧ nat_shift.l0 n (toIs a) u (toIs o) y (toIs a) e i = some r) k ?_ ?_)
      · cbv
        (iterate 4 apply Exists.intro); refine ⟨?_, ?_⟩; cbv; refine ⟨by ((try simp only [hA, nE, std, zE32, zE64, nc]); first | done | exact set_wf ‹_› _ _ | exact repl_ii _ _ _ | exact app_wf ‹_› _ | exact take_wf ‹_› _ | assumption | exact ii_wf _ _ | exact take_wf (ii_wf _ _) _ | rfl), ?_⟩
        refine ⟨Nat.le_refl _, ?_⟩
        simpa only [List.length_replicate, Int.zero_tmod, toIs_ii, ii_len, Int.zero_tdiv, w0, hA, nE, shl, shr, std, zE32, zE64, nc, nth_rd', i64w, u32_wrap, p32, p31, p63, w6432, toIs_len, set_toIs, repl_toIs, app_toIs, tos1, tos0, p1, take_toIs, drop_toIs, ieq_iff, ieq_iff', ilt_iff, ilt_iff', ile_iff, ile_iff', gt_iff_lt, ge_iff_le, Bool.not_eq_true', Bool.not_eq_false', List.drop_zero, Nat.sub_zero] using hf
      · rintro n0 s ⟨o, y, e, i, rfl, wo, hle0, hi⟩
        cases n0 with
        | zero => cases hi
        | succ n0 =>
          unfold nat_shift.l0 at hi
          try simp only [toIs_len] at hi
          repeat' first | split at hi | (rw [Option.bind_eq_some_iff] at hi; obtain ⟨_, hy, hi⟩ := hi; try (cases hy))
          all_goals try cases hi
          all_goals try simp only [Bool.not_eq_true', Bool.not_eq_true, Bool.not_eq_false] at *
          all_goals cbv
          all_goals repeat (first | (refine Exists.intro _ (Exists.intro _ (And.intro (by (try simp only [List.length_replicate, Int.zero_tmod, toIs_ii, ii_len, Int.zero_tdiv, w0, hA, nE, shl, shr, std, zE32, zE64, nc, nth_rd', i64w, u32_wrap, p32, p31, p63, w6432, toIs_len, set_toIs, repl_toIs, app_toIs, tos1, tos0, p1, take_toIs, drop_toIs, ieq_iff, ieq_iff', ilt_iff, ilt_iff', ile_iff, ile_iff', gt_iff_lt, ge_iff_le, Bool.not_eq_true', Bool.not_eq_false', List.drop_zero, Nat.sub_zero]); assumption) ?_)); cbv) | (refine Exists.intro _ (And.intro (by (try simp only [List.length_replicate, Int.zero_tmod, toIs_ii, ii_len, Int.zero_tdiv, w0, hA, nE, shl, shr, std, zE32, zE64, nc, nth_rd', i64w, u32_wrap, p32, p31, p63, w6432, toIs_len, set_toIs, repl_toIs, app_toIs, tos1, tos0, p1, take_toIs, drop_toIs, ieq_iff, ieq_iff', ilt_iff, ilt_iff', ile_iff, ile_iff', gt_iff_lt, ge_iff_le, Bool.not_eq_true', Bool.not_eq_false', List.drop_zero, Nat.sub_zero]); assumption) ?_); cbv) | (refine And.intro (by (try simp only [List.length_replicate, Int.zero_tmod, toIs_ii, ii_len, Int.zero_tdiv, w0, hA, nE, shl, shr, std, zE32, zE64, nc, nth_rd', i64w, u32_wrap, p32, p31, p63, w6432, toIs_len, set_toIs, repl_toIs, app_toIs, tos1, tos0, p1, take_toIs, drop_toIs, ieq_iff, ieq_iff', ilt_iff, ilt_iff', ile_iff, ile_iff', gt_iff_lt, ge_iff_le, Bool.not_eq_true', Bool.not_eq_false', List.drop_zero, Nat.sub_zero]); first | done | exact ix ‹_› ‹_› | exact ix (Int.le_refl 0) ‹_› | decide | exact ap4 ‹_› | exact ap8 ‹_› | exact mk4 ‹_› ‹_› | exact mk8 ‹_› ‹_› | exact ix' ‹_› ‹_› | assumption | omega) ?_; cbv) | (split <;> rename_i hz <;> (try simp only [List.length_replicate, Int.zero_tmod, toIs_ii, ii_len, Int.zero_tdiv, w0, hA, nE, shl, shr, std, zE32, zE64, nc, nth_rd', i64w, u32_wrap, p32, p31, p63, w6432, toIs_len, set_toIs, repl_toIs, app_toIs, tos1, tos0, p1, take_toIs, drop_toIs, ieq_iff, ieq_iff', ilt_iff, ilt_iff', ile_iff, ile_iff', gt_iff_lt, ge_iff_le, Bool.not_eq_true', Bool.not_eq_false', List.drop_zero, Nat.sub_zero] at hz) <;> first | contradiction | (exfalso; omega) | (exfalso; have hz2 := hz.symm.trans ‹_ = true›; cases hz2; done) | (exfalso; have hz2 := hz.symm.trans ‹_ = false›; cases hz2; done) | cbv))
          all_goals try (refine ⟨n0, by omega, ?_⟩; cbv; (iterate 4 apply Exists.intro); refine ⟨?_, ?_⟩; cbv; refine ⟨by ((try simp only [hA, nE, std, zE32, zE64, nc]); first | done | exact set_wf ‹_› _ _ | exact repl_ii _ _ _ | exact app_wf ‹_› _ | exact take_wf ‹_› _ | assumption | exact ii_wf _ _ | exact take_wf (ii_wf _ _) _ | rfl), ?_⟩; refine ⟨by omega, ?_⟩; simpa only [List.length_replicate, Int.zero_tmod, toIs_ii, ii_len, Int.zero_tdiv, w0, hA, nE, shl, shr, std, zE32, zE64, nc, nth_rd', i64w, u32_wrap, p32, p31, p63, w6432, toIs_len, set_toIs, repl_toIs, app_toIs, tos1, tos0, p1, take_toIs, drop_toIs, ieq_iff, ieq_iff', ilt_iff, ilt_iff', ile_iff, ile_iff', gt_iff_lt, ge_iff_le, Bool.not_eq_true', Bool.not_eq_false', List.drop_zero, Nat.sub_zero] using hi)
          all_goals try (refine fin_new h ?_; (try simp only [List.length_replicate, Int.zero_tmod, toIs_ii, ii_len, Int.zero_tdiv, w0, hA, nE, shl, shr, std, zE32, zE64, nc, nth_rd', i64w, u32_wrap, p32, p31, p63, w6432, toIs_len, set_toIs, repl_toIs, app_toIs, tos1, tos0, p1, take_toIs, drop_toIs, ieq_iff, ieq_iff', ilt_iff, ilt_iff', ile_iff, ile_iff', gt_iff_lt, ge_iff_le, Bool.not_eq_true', Bool.not_eq_false', List.drop_zero, Nat.sub_zero]); first | rfl | exact set_ii' ‹_› _ _; done)
  · exact h.elim
def unshiftRun (A : Lz) (args : List FV) (q : FV → FV → Prop) : Prop :=
  match args with
  | [.row (.int .u32) a, .int .i64 u] => ∃ k r, nat_unshift.f k (toIs a) u = some r ∧ q (.row (.int .u32) (A _ fun _ => ii .u32 r)) .dead
  | _ => False
theorem unshift_ok : SpecOk EV 120 ⟨false, unshiftRun⟩ := by
  refine .shaped 4 (spec_go (.cons (f := 124) at_ok (.nil _)) (fn := Tryd.f120) rfl rfl Tryd.func120 rfl false [] _ ?_)
  rintro A hA args q ⟨hw, h⟩
  unfold unshiftRun at h
  split at h
  · rename_i a u
    obtain ⟨k, r, hf, h⟩ := h
    try simp only [std] at h
    have wa := wf_ii (hw _ (.head _))
    refine ⟨Nat.le_of_ble_eq_true rfl, ?_⟩
    unfold nat_unshift.f at hf
    try simp only [toIs_len] at hf
    repeat' first | split at hf | (rw [Option.bind_eq_some_iff] at hf; obtain ⟨_, hy, hf⟩ := hf; try (cases hy))
    all_goals try cases hf
    all_goals try simp only [Bool.not_eq_true', Bool.not_eq_true, Bool.not_eq_false] at *
    all_goals cbv
    all_goals repeat (first | (refine Exists.intro _ (Exists.intro _ (And.intro (by (try simp only [List.length_replicate, Int.zero_tmod, toIs_ii, ii_len, Int.zero_tdiv, w0, hA, nE, shl, shr, std, zE32, zE64, nc, nth_rd', i64w, u32_wrap, p32, p31, p63, w6432, toIs_len, set_toIs, repl_toIs, app_toIs, tos1, tos0, p1, take_toIs, drop_toIs, ieq_iff, ieq_iff', ilt_iff, ilt_iff', ile_iff, ile_iff', gt_iff_lt, ge_iff_le, Bool.not_eq_true', Bool.not_eq_false', List.drop_zero, Nat.sub_zero]); assumption) ?_)); cbv) | (refine Exists.intro _ (And.intro (by (try simp only [List.length_replicate, Int.zero_tmod, toIs_ii, ii_len, Int.zero_tdiv, w0, hA, nE, shl, shr, std, zE32, zE64, nc, nth_rd', i64w, u32_wrap, p32, p31, p63, w6432, toIs_len, set_toIs, repl_toIs, app_toIs, tos1, tos0, p1, take_toIs, drop_toIs, ieq_iff, ieq_iff', ilt_iff, ilt_iff', ile_iff, ile_iff', gt_iff_lt, ge_iff_le, Bool.not_eq_true', Bool.not_eq_false', List.drop_zero, Nat.sub_zero]); assumption) ?_); cbv) | (refine And.intro (by (try simp only [List.length_replicate, Int.zero_tmod, toIs_ii, ii_len, Int.zero_tdiv, w0, hA, nE, shl, shr, std, zE32, zE64, nc, nth_rd', i64w, u32_wrap, p32, p31, p63, w6432, toIs_len, set_toIs, repl_toIs, app_toIs, tos1, tos0, p1, take_toIs, drop_toIs, ieq_iff, ieq_iff', ilt_iff, ilt_iff', ile_iff, ile_iff', gt_iff_lt, ge_iff_le, Bool.not_eq_true', Bool.not_eq_false', List.drop_zero, Nat.sub_zero]); first | done | exact ix ‹_› ‹_› | exact ix (Int.le_refl 0) ‹_› | decide | exact ap4 ‹_› | exact ap8 ‹_› | exact mk4 ‹_› ‹_› | exact mk8 ‹_› ‹_› | exact ix' ‹_› ‹_› | assumption | omega) ?_; cbv) | (split <;> rename_i hz <;> (try simp only [List.length_replicate, Int.zero_tmod, toIs_ii, ii_len, Int.zero_tdiv, w0, hA, nE, shl, shr, std, zE32, zE64, nc, nth_rd', i64w, u32_wrap, p32, p31, p63, w6432, toIs_len, set_toIs, repl_toIs, app_toIs, tos1, tos0, p1, take_toIs, drop_toIs, ieq_iff, ieq_iff', ilt_iff, ilt_iff', ile_iff, ile_iff', gt_iff_lt, ge_iff_le, Bool.not_eq_true', Bool.not_eq_false', List.drop_zero, Nat.sub_zero] at hz) <;> first | contradiction | (exfalso; omega) | (exfalso; have hz2 := hz.symm.trans ‹_ = true›; cases hz2; done) | (exfalso; have hz2 := hz.symm.trans ‹_ = false›; cases hz2; done) | cbv))
    all_goals try (refine fin_row h ?_; (try simp only [List.length_replicate, Int.zero_tmod, toIs_ii, ii_len, Int.zero_tdiv, w0, hA, nE, shl, shr, std, zE32, zE64, nc, nth_rd', i64w, u32_wrap, p32, p31, p63, w6432, toIs_len, set_toIs, repl_toIs, app_toIs, tos1, tos0, p1, take_toIs, drop_toIs, ieq_iff, ieq_iff', ilt_iff, ilt_iff', ile_iff, ile_iff', gt_iff_lt, ge_iff_le, Bool.not_eq_true', Bool.not_eq_false', List.drop_zero, Nat.sub_zero]); first | rfl | assumption; done)
    · refine (loop_intro hA [(0, .keep), (1, .keep), (5, .own (.int .u32)), (11, .keep), (12, .keep), (13, .keep)] (fun n s => ∃ o e i, s = st [(0, .row (.int .u32) a), (1, .int .i64 u), (5, .own 5 0), (11, .row (.int .u32) a), (12, .int .i64 e), (13, .int .i64 i)] [(5, ⟨0, true, .arr (.int .u32) true o⟩)] ∧ o = ii .u32 (toIs o) ∧ n ≤ k ∧ nat_unshift.l0 n (toIs a) u (toIs o) (toIs a) e i = some r) k ?_ ?_)
      · cbv
        (iterate 3 apply Exists.intro); refine ⟨?_, ?_⟩; cbv; refine ⟨by ((try simp only [hA, nE, std, zE32, zE64, nc]); first | done | exact set_wf ‹_› _ _ | exact repl_ii _ _ _ | exact app_wf ‹_› _ | exact take_wf ‹_› _ | assumption | exact ii_wf _ _ | exact take_wf (ii_wf _ _) _ | rfl), ?_⟩
        refine ⟨Nat.le_refl _, ?_⟩
        simpa only [List.length_replicate, Int.zero_tmod, toIs_ii, ii_len, Int.zero_tdiv, w0, hA, nE, shl, shr, std, zE32, zE64, nc, nth_rd', i64w, u32_wrap, p32, p31, p63, w6432, toIs_len, set_toIs, repl_toIs, app_toIs, tos1, tos0, p1, take_toIs, drop_toIs, ieq_iff, ieq_iff', ilt_iff, ilt_iff', ile_iff, ile_iff', gt_iff_lt, ge_iff_le, Bool.not_eq_true', Bool.not_eq_false', List.drop_zero, Nat.sub_zero] using hf
      · rintro n0 s ⟨o, e, i, rfl, wo, hle0, hi⟩
        cases n0 with
        | zero => cases hi
        | succ n0 =>
          unfold nat_unshift.l0 at hi
          try simp only [toIs_len] at hi
          repeat' first | split at hi | (rw [Option.bind_eq_some_iff] at hi; obtain ⟨_, hy, hi⟩ := hi; try (cases hy))
          all_goals try cases hi
          all_goals try simp only [Bool.not_eq_true', Bool.not_eq_true, Bool.not_eq_false] at *
          all_goals cbv
          all_goals repeat (first | (refine Exists.intro _ (Exists.intro _ (And.intro (by (try simp only [List.length_replicate, Int.zero_tmod, toIs_ii, ii_len, Int.zero_tdiv, w0, hA, nE, shl, shr, std, zE32, zE64, nc, nth_rd', i64w, u32_wrap, p32, p31, p63, w6432, toIs_len, set_toIs, repl_toIs, app_toIs, tos1, tos0, p1, take_toIs, drop_toIs, ieq_iff, ieq_iff', ilt_iff, ilt_iff', ile_iff, ile_iff', gt_iff_lt, ge_iff_le, Bool.not_eq_true', Bool.not_eq_false', List.drop_zero, Nat.sub_zero]); assumption) ?_)); cbv) | (refine Exists.intro _ (And.intro (by (try simp only [List.length_replicate, Int.zero_tmod, toIs_ii, ii_len, Int.zero_tdiv, w0, hA, nE, shl, shr, std, zE32, zE64, nc, nth_rd', i64w, u32_wrap, p32, p31, p63, w6432, toIs_len, set_toIs, repl_toIs, app_toIs, tos1, tos0, p1, take_toIs, drop_toIs, ieq_iff, ieq_iff', ilt_iff, ilt_iff', ile_iff, ile_iff', gt_iff_lt, ge_iff_le, Bool.not_eq_true', Bool.not_eq_false', List.drop_zero, Nat.sub_zero]); assumption) ?_); cbv) | (refine And.intro (by (try simp only [List.length_replicate, Int.zero_tmod, toIs_ii, ii_len, Int.zero_tdiv, w0, hA, nE, shl, shr, std, zE32, zE64, nc, nth_rd', i64w, u32_wrap, p32, p31, p63, w6432, toIs_len, set_toIs, repl_toIs, app_toIs, tos1, tos0, p1, take_toIs, drop_toIs, ieq_iff, ieq_iff', ilt_iff, ilt_iff', ile_iff, ile_iff', gt_iff_lt, ge_iff_le, Bool.not_eq_true', Bool.not_eq_false', List.drop_zero, Nat.sub_zero]); first | done | exact ix ‹_› ‹_› | exact ix (Int.le_refl 0) ‹_› | decide | exact ap4 ‹_› | exact ap8 ‹_› | exact mk4 ‹_› ‹_› | exact mk8 ‹_› ‹_› | exact ix' ‹_› ‹_› | assumption | omega) ?_; cbv) | (split <;> rename_i hz <;> (try simp only [List.length_replicate, Int.zero_tmod, toIs_ii, ii_len, Int.zero_tdiv, w0, hA, nE, shl, shr, std, zE32, zE64, nc, nth_rd', i64w, u32_wrap, p32, p31, p63, w6432, toIs_len, set_toIs, repl_toIs, app_toIs, tos1, tos0, p1, take_toIs, drop_toIs, ieq_iff, ieq_iff', ilt_iff, ilt_iff', ile_iff, ile_iff', gt_iff_lt, ge_iff_le, Bool.not_eq_true', Bool.not_eq_false', List.drop_zero, Nat.sub_zero] at hz) <;> first | contradiction | (exfalso; omega) | (exfalso; have hz2 := hz.symm.trans ‹_ = true›; cases hz2; done) | (exfalso; have hz2 := hz.symm.trans ‹_ = false›; cases hz2; done) | cbv))
          all_goals try (refine ⟨n0, by omega, ?_⟩; cbv; (iterate 3 apply Exists.intro); refine ⟨?_, ?_⟩; cbv; refine ⟨by ((try simp only [hA, nE, std, zE32, zE64, nc]); first | done | exact set_wf ‹_› _ _ | exact repl_ii _ _ _ | exact app_wf ‹_› _ | exact take_wf ‹_› _ | assumption | exact ii_wf _ _ | exact take_wf (ii_wf _ _) _ | rfl), ?_⟩; refine ⟨by omega, ?_⟩; simpa only [List.length_replicate, Int.zero_tmod, toIs_ii, ii_len, Int.zero_tdiv, w0, hA, nE, shl, shr, std, zE32, zE64, nc, nth_rd', i64w, u32_wrap, p32, p31, p63, w6432, toIs_len, set_toIs, repl_toIs, app_toIs, tos1, tos0, p1, take_toIs, drop_toIs, ieq_iff, ieq_iff', ilt_iff, ilt_iff', ile_iff, ile_iff', gt_iff_lt, ge_iff_le, Bool.not_eq_true', Bool.not_eq_false', List.drop_zero, Nat.sub_zero] using hi)
          all_goals try (refine fin_row h ?_; (try simp only [List.length_replicate, Int.zero_tmod, toIs_ii, ii_len, Int.zero_tdiv, w0, hA, nE, shl, shr, std, zE32, zE64, nc, nth_rd', i64w, u32_wrap, p32, p31, p63, w6432, toIs_len, set_toIs, repl_toIs, app_toIs, tos1, tos0, p1, take_toIs, drop_toIs, ieq_iff, ieq_iff', ilt_iff, ilt_iff', ile_iff, ile_iff', gt_iff_lt, ge_iff_le, Bool.not_eq_true', Bool.not_eq_false', List.drop_zero, Nat.sub_zero]); first | rfl | assumption; done)
  · exact h.elim
def guessRun (A : Lz) (args : List FV) (q : FV → FV → Prop) : Prop :=
  match args with
  | [.row (.int .u32) a, .row (.int .u32) b, .int .i64 p] => ∃ k r, nat_guess.f k (toIs a) (toIs b) p = some r ∧ q (.int .u64 r) .dead
  | _ => False
theorem guess_ok : SpecOk EV 117 ⟨false, guessRun⟩ := by
  refine .shaped 4 (spec_go (.nil _) (fn := Tryd.f117) rfl rfl Tryd.func117 rfl false [] _ ?_)
  rintro A hA args q ⟨hw, h⟩
  unfold guessRun at h
  split at h
  · rename_i a b p
    obtain ⟨k, r, hf, h⟩ := h
    try simp only [std] at h
    have wa := wf_ii (hw _ (.head _))
    have wb := wf_ii (hw _ (.tail _ (.head _)))
    refine ⟨Nat.le_of_ble_eq_true rfl, ?_⟩
    unfold nat_guess.f at hf
    try simp only [toIs_len] at hf
    repeat' first | split at hf | (rw [Option.bind_eq_some_iff] at hf; obtain ⟨_, hy, hf⟩ := hf; try (cases hy)) | (rcases k with _ | k <;> unfold nat_guess.j1 at hf <;> (try simp only [toIs_len] at hf) <;> try (cases hf; done))
    all_goals try cases hf
    all_goals try simp only [Bool.not_eq_true', Bool.not_eq_true, Bool.not_eq_false] at *
    all_goals cbv
    all_goals repeat (first | (refine Exists.intro _ (Exists.intro _ (And.intro (by (try simp only [List.length_replicate, Int.zero_tmod, toIs_ii, ii_len, Int.zero_tdiv, w0, hA, nE, shl, shr, std, zE32, zE64, nc, nth_rd', i64w, u32_wrap, p32, p31, p63, w6432, toIs_len, set_toIs, repl_toIs, app_toIs, tos1, tos0, p1, take_toIs, drop_toIs, ieq_iff, ieq_iff', ilt_iff, ilt_iff', ile_iff, ile_iff', gt_iff_lt, ge_iff_le, Bool.not_eq_true', Bool.not_eq_false', List.drop_zero, Nat.sub_zero]); assumption) ?_)); cbv) | (refine Exists.intro _ (And.intro (by (try simp only [List.length_replicate, Int.zero_tmod, toIs_ii, ii_len, Int.zero_tdiv, w0, hA, nE, shl, shr, std, zE32, zE64, nc, nth_rd', i64w, u32_wrap, p32, p31, p63, w6432, toIs_len, set_toIs, repl_toIs, app_toIs, tos1, tos0, p1, take_toIs, drop_toIs, ieq_iff, ieq_iff', ilt_iff, ilt_iff', ile_iff, ile_iff', gt_iff_lt, ge_iff_le, Bool.not_eq_true', Bool.not_eq_false', List.drop_zero, Nat.sub_zero]); assumption) ?_); cbv) | (refine And.intro (by (try simp only [List.length_replicate, Int.zero_tmod, toIs_ii, ii_len, Int.zero_tdiv, w0, hA, nE, shl, shr, std, zE32, zE64, nc, nth_rd', i64w, u32_wrap, p32, p31, p63, w6432, toIs_len, set_toIs, repl_toIs, app_toIs, tos1, tos0, p1, take_toIs, drop_toIs, ieq_iff, ieq_iff', ilt_iff, ilt_iff', ile_iff, ile_iff', gt_iff_lt, ge_iff_le, Bool.not_eq_true', Bool.not_eq_false', List.drop_zero, Nat.sub_zero]); first | done | exact ix ‹_› ‹_› | exact ix (Int.le_refl 0) ‹_› | decide | exact ap4 ‹_› | exact ap8 ‹_› | exact mk4 ‹_› ‹_› | exact mk8 ‹_› ‹_› | exact ix' ‹_› ‹_› | assumption | omega) ?_; cbv) | (split <;> rename_i hz <;> (try simp only [List.length_replicate, Int.zero_tmod, toIs_ii, ii_len, Int.zero_tdiv, w0, hA, nE, shl, shr, std, zE32, zE64, nc, nth_rd', i64w, u32_wrap, p32, p31, p63, w6432, toIs_len, set_toIs, repl_toIs, app_toIs, tos1, tos0, p1, take_toIs, drop_toIs, ieq_iff, ieq_iff', ilt_iff, ilt_iff', ile_iff, ile_iff', gt_iff_lt, ge_iff_le, Bool.not_eq_true', Bool.not_eq_false', List.drop_zero, Nat.sub_zero] at hz) <;> first | contradiction | (exfalso; omega) | (exfalso; have hz2 := hz.symm.trans ‹_ = true›; cases hz2; done) | (exfalso; have hz2 := hz.symm.trans ‹_ = false›; cases hz2; done) | cbv))
    all_goals try (refine fin_int h ?_; (try simp only [List.length_replicate, Int.zero_tmod, toIs_ii, ii_len, Int.zero_tdiv, w0, hA, nE, shl, shr, std, zE32, zE64, nc, nth_rd', i64w, u32_wrap, p32, p31, p63, w6432, toIs_len, set_toIs, repl_toIs, app_toIs, tos1, tos0, p1, take_toIs, drop_toIs, ieq_iff, ieq_iff', ilt_iff, ilt_iff', ile_iff, ile_iff', gt_iff_lt, ge_iff_le, Bool.not_eq_true', Bool.not_eq_false', List.drop_zero, Nat.sub_zero]); done)
    · refine (loop_intro hA [(0, .keep), (1, .keep), (2, .keep), (7, .keep), (9, .keep), (10, .keep)] (fun n s => ∃ e x y, s = st [(0, .row (.int .u32) a), (1, .row (.int .u32) b), (2, .int .i64 p), (7, .int .i64 e), (9, .int .u64 x), (10, .int .u64 y)] [] ∧ n ≤ k ∧ nat_guess.l0 n (toIs a) (toIs b) p e x y = some r) k ?_ ?_)
      · cbv
        (iterate 3 apply Exists.intro); refine ⟨?_, ?_⟩; cbv
        refine ⟨Nat.le_refl _, ?_⟩
        simpa only [List.length_replicate, Int.zero_tmod, toIs_ii, ii_len, Int.zero_tdiv, w0, hA, nE, shl, shr, std, zE32, zE64, nc, nth_rd', i64w, u32_wrap, p32, p31, p63, w6432, toIs_len, set_toIs, repl_toIs, app_toIs, tos1, tos0, p1, take_toIs, drop_toIs, ieq_iff, ieq_iff', ilt_iff, ilt_iff', ile_iff, ile_iff', gt_iff_lt, ge_iff_le, Bool.not_eq_true', Bool.not_eq_false', List.drop_zero, Nat.sub_zero] using hf
      · rintro n0 s ⟨e, x, y, rfl, hle0, hi⟩
        cases n0 with
        | zero => cases hi
        | succ n0 =>
          unfold nat_guess.l0 at hi
          try simp only [toIs_len] at hi
          repeat' first | split at hi | (rw [Option.bind_eq_some_iff] at hi; obtain ⟨_, hy, hi⟩ := hi; try (cases hy)) | (rcases n0 with _ | n0 <;> unfold nat_guess.j1 at hi <;> (try simp only [toIs_len] at hi) <;> try (cases hi; done))
          all_goals try cases hi
          all_goals try simp only [Bool.not_eq_true', Bool.not_eq_true, Bool.not_eq_false] at *
          all_goals try simp only [decide_eq_true_eq, decide_eq_false_iff_not] at *
          all_goals cbv
          all_goals repeat (first | (refine Exists.intro _ (Exists.intro _ (And.intro (by (try simp only [List.length_replicate, Int.zero_tmod, toIs_ii, ii_len, Int.zero_tdiv, w0, hA, nE, shl, shr, std, zE32, zE64, nc, nth_rd', i64w, u32_wrap, p32, p31, p63, w6432, toIs_len, set_toIs, repl_toIs, app_toIs, tos1, tos0, p1, take_toIs, drop_toIs, ieq_iff, ieq_iff', ilt_iff, ilt_iff', ile_iff, ile_iff', gt_iff_lt, ge_iff_le, Bool.not_eq_true', Bool.not_eq_false', List.drop_zero, Nat.sub_zero]); assumption) ?_)); cbv) | (refine Exists.intro _ (And.intro (by (try simp only [List.length_replicate, Int.zero_tmod, toIs_ii, ii_len, Int.zero_tdiv, w0, hA, nE, shl, shr, std, zE32, zE64, nc, nth_rd', i64w, u32_wrap, p32, p31, p63, w6432, toIs_len, set_toIs, repl_toIs, app_toIs, tos1, tos0, p1, take_toIs, drop_toIs, ieq_iff, ieq_iff', ilt_iff, ilt_iff', ile_iff, ile_iff', gt_iff_lt, ge_iff_le, Bool.not_eq_true', Bool.not_eq_false', List.drop_zero, Nat.sub_zero]); assumption) ?_); cbv) | (refine And.intro (by (try simp only [List.length_replicate, Int.zero_tmod, toIs_ii, ii_len, Int.zero_tdiv, w0, hA, nE, shl, shr, std, zE32, zE64, nc, nth_rd', i64w, u32_wrap, p32, p31, p63, w6432, toIs_len, set_toIs, repl_toIs, app_toIs, tos1, tos0, p1, take_toIs, drop_toIs, ieq_iff, ieq_iff', ilt_iff, ilt_iff', ile_iff, ile_iff', gt_iff_lt, ge_iff_le, Bool.not_eq_true', Bool.not_eq_false', List.drop_zero, Nat.sub_zero]); first | done | exact ix ‹_› ‹_› | exact ix (Int.le_refl 0) ‹_› | decide | exact ap4 ‹_› | exact ap8 ‹_› | exact mk4 ‹_› ‹_› | exact mk8 ‹_› ‹_› | exact ix' ‹_› ‹_› | assumption | omega) ?_; cbv) | (split <;> rename_i hz <;> (try simp only [List.length_replicate, Int.zero_tmod, toIs_ii, ii_len, Int.zero_tdiv, w0, hA, nE, shl, shr, std, zE32, zE64, nc, nth_rd', i64w, u32_wrap, p32, p31, p63, w6432, toIs_len, set_toIs, repl_toIs, app_toIs, tos1, tos0, p1, take_toIs, drop_toIs, ieq_iff, ieq_iff', ilt_iff, ilt_iff', ile_iff, ile_iff', gt_iff_lt, ge_iff_le, Bool.not_eq_true', Bool.not_eq_false', List.drop_zero, Nat.sub_zero] at hz) <;> first | contradiction | (exfalso; omega) | (exfalso; have hz2 := hz.symm.trans ‹_ = true›; cases hz2; done) | (exfalso; have hz2 := hz.symm.trans ‹_ = false›; cases hz2; done) | cbv))
          all_goals try (refine ⟨n0, by omega, ?_⟩; cbv; (iterate 3 apply Exists.intro); refine ⟨?_, ?_⟩; cbv; refine ⟨by omega, ?_⟩; simpa only [List.length_replicate, Int.zero_tmod, toIs_ii, ii_len, Int.zero_tdiv, w0, hA, nE, shl, shr, std, zE32, zE64, nc, nth_rd', i64w, u32_wrap, p32, p31, p63, w6432, toIs_len, set_toIs, repl_toIs, app_toIs, tos1, tos0, p1, take_toIs, drop_toIs, ieq_iff, ieq_iff', ilt_iff, ilt_iff', ile_iff, ile_iff', gt_iff_lt, ge_iff_le, Bool.not_eq_true', Bool.not_eq_false', List.drop_zero, Nat.sub_zero] using hi)
          all_goals try (refine fin_int h ?_; (try simp only [List.length_replicate, Int.zero_tmod, toIs_ii, ii_len, Int.zero_tdiv, w0, hA, nE, shl, shr, std, zE32, zE64, nc, nth_rd', i64w, u32_wrap, p32, p31, p63, w6432, toIs_len, set_toIs, repl_toIs, app_toIs, tos1, tos0, p1, take_toIs, drop_toIs, ieq_iff, ieq_iff', ilt_iff, ilt_iff', ile_iff, ile_iff', gt_iff_lt, ge_iff_le, Bool.not_eq_true', Bool.not_eq_false', List.drop_zero, Nat.sub_zero]); done)
  · exact h.elim
def takeRun (A : Lz) (args : List FV) (q : FV → FV → Prop) : Prop :=
  match args with
  | [.row (.int .u32) a, .row (.int .u32) b, .int .i64 p, .int .u64 z] => ∃ k r, nat_take.f k (toIs a) (toIs b) p z = some r ∧ q (.bool r.1) (.row (.int .u32) (A _ fun _ => ii .u32 r.2))
  | _ => False
theorem take_ok : SpecOk EV 118 ⟨true, takeRun⟩ := by
  refine .shaped 4 (spec_go (.nil _) (fn := Tryd.f118) rfl rfl Tryd.func118 rfl true [] _ ?_)
  rintro A hA args q ⟨hw, h⟩
  unfold takeRun at h
  split at h
  · rename_i a b p z
    obtain ⟨k, r, hf, h⟩ := h
    try simp only [std] at h
    have wa := wf_ii (hw _ (.head _))
    have wb := wf_ii (hw _ (.tail _ (.head _)))
    refine ⟨Nat.le_of_ble_eq_true rfl, ?_⟩
    unfold nat_take.f at hf
    try simp only [toIs_len] at hf
    repeat' first | split at hf | (rw [Option.bind_eq_some_iff] at hf; obtain ⟨_, hy, hf⟩ := hf; try (cases hy))
    all_goals try cases hf
    all_goals try simp only [Bool.not_eq_true', Bool.not_eq_true, Bool.not_eq_false] at *
    all_goals cbv
    all_goals repeat (first | (refine Exists.intro _ (Exists.intro _ (And.intro (by (try simp only [List.length_replicate, Int.zero_tmod, toIs_ii, ii_len, Int.zero_tdiv, w0, hA, nE, shl, shr, std, zE32, zE64, nc, nth_rd', i64w, u32_wrap, p32, p31, p63, w6432, toIs_len, set_toIs, repl_toIs, app_toIs, tos1, tos0, p1, take_toIs, drop_toIs, ieq_iff, ieq_iff', ilt_iff, ilt_iff', ile_iff, ile_iff', gt_iff_lt, ge_iff_le, Bool.not_eq_true', Bool.not_eq_false', List.drop_zero, Nat.sub_zero]); assumption) ?_)); cbv) | (refine Exists.intro _ (And.intro (by (try simp only [List.length_replicate, Int.zero_tmod, toIs_ii, ii_len, Int.zero_tdiv, w0, hA, nE, shl, shr, std, zE32, zE64, nc, nth_rd', i64w, u32_wrap, p32, p31, p63, w6432, toIs_len, set_toIs, repl_toIs, app_toIs, tos1, tos0, p1, take_toIs, drop_toIs, ieq_iff, ieq_iff', ilt_iff, ilt_iff', ile_iff, ile_iff', gt_iff_lt, ge_iff_le, Bool.not_eq_true', Bool.not_eq_false', List.drop_zero, Nat.sub_zero]); assumption) ?_); cbv) | (refine And.intro (by (try simp only [List.length_replicate, Int.zero_tmod, toIs_ii, ii_len, Int.zero_tdiv, w0, hA, nE, shl, shr, std, zE32, zE64, nc, nth_rd', i64w, u32_wrap, p32, p31, p63, w6432, toIs_len, set_toIs, repl_toIs, app_toIs, tos1, tos0, p1, take_toIs, drop_toIs, ieq_iff, ieq_iff', ilt_iff, ilt_iff', ile_iff, ile_iff', gt_iff_lt, ge_iff_le, Bool.not_eq_true', Bool.not_eq_false', List.drop_zero, Nat.sub_zero]); first | done | exact ix ‹_› ‹_› | exact ix (Int.le_refl 0) ‹_› | decide | exact ap4 ‹_› | exact ap8 ‹_› | exact mk4 ‹_› ‹_› | exact mk8 ‹_› ‹_› | exact ix' ‹_› ‹_› | assumption | omega) ?_; cbv) | (split <;> rename_i hz <;> (try simp only [List.length_replicate, Int.zero_tmod, toIs_ii, ii_len, Int.zero_tdiv, w0, hA, nE, shl, shr, std, zE32, zE64, nc, nth_rd', i64w, u32_wrap, p32, p31, p63, w6432, toIs_len, set_toIs, repl_toIs, app_toIs, tos1, tos0, p1, take_toIs, drop_toIs, ieq_iff, ieq_iff', ilt_iff, ilt_iff', ile_iff, ile_iff', gt_iff_lt, ge_iff_le, Bool.not_eq_true', Bool.not_eq_false', List.drop_zero, Nat.sub_zero] at hz) <;> first | contradiction | (exfalso; omega) | (exfalso; have hz2 := hz.symm.trans ‹_ = true›; cases hz2; done) | (exfalso; have hz2 := hz.symm.trans ‹_ = false›; cases hz2; done) | cbv))
    all_goals try (refine fin2 h ?_ ?_ <;> (try simp only [List.length_replicate, Int.zero_tmod, toIs_ii, ii_len, Int.zero_tdiv, w0, hA, nE, shl, shr, std, zE32, zE64, nc, nth_rd', i64w, u32_wrap, p32, p31, p63, w6432, toIs_len, set_toIs, repl_toIs, app_toIs, tos1, tos0, p1, take_toIs, drop_toIs, ieq_iff, ieq_iff', ilt_iff, ilt_iff', ile_iff, ile_iff', gt_iff_lt, ge_iff_le, Bool.not_eq_true', Bool.not_eq_false', List.drop_zero, Nat.sub_zero]) <;> first | rfl | (refine congrArg _ ?_; exact set_ii' ‹_› _ _); done)
    · refine (loop_intro hA [(0, .own (.int .u32)), (1, .keep), (2, .keep), (3, .keep), (9, .keep), (10, .keep), (15, .keep), (16, .keep)] (fun n s => ∃ o x y e i, s = st [(0, .own 0 0), (1, .row (.int .u32) b), (2, .int .i64 p), (3, .int .u64 z), (9, .int .u64 x), (10, .int .u64 y), (15, .int .i64 e), (16, .int .i64 i)] [(0, ⟨0, true, .arr (.int .u32) false o⟩)] ∧ o = ii .u32 (toIs o) ∧ n ≤ k ∧ nat_take.l0 n (toIs o) (toIs b) p z x y e i = some r) k ?_ ?_)
      · cbv
        (iterate 5 apply Exists.intro); refine ⟨?_, ?_⟩; cbv; refine ⟨by ((try simp only [hA, nE, std, zE32, zE64, nc]); first | done | exact set_wf ‹_› _ _ | exact repl_ii _ _ _ | exact app_wf ‹_› _ | exact take_wf ‹_› _ | assumption | exact ii_wf _ _ | exact take_wf (ii_wf _ _) _ | rfl), ?_⟩
        refine ⟨Nat.le_refl _, ?_⟩
        simpa only [List.length_replicate, Int.zero_tmod, toIs_ii, ii_len, Int.zero_tdiv, w0, hA, nE, shl, shr, std, zE32, zE64, nc, nth_rd', i64w, u32_wrap, p32, p31, p63, w6432, toIs_len, set_toIs, repl_toIs, app_toIs, tos1, tos0, p1, take_toIs, drop_toIs, ieq_iff, ieq_iff', ilt_iff, ilt_iff', ile_iff, ile_iff', gt_iff_lt, ge_iff_le, Bool.not_eq_true', Bool.not_eq_false', List.drop_zero, Nat.sub_zero] using hf
      · rintro n0 s ⟨o, x, y, e, i, rfl, wo, hle0, hi⟩
        cases n0 with
        | zero => cases hi
        | succ n0 =>
          unfold nat_take.l0 at hi
          try simp only [toIs_len] at hi
          repeat' first | split at hi | (rw [Option.bind_eq_some_iff] at hi; obtain ⟨_, hy, hi⟩ := hi; try (cases hy))
          all_goals try cases hi
          all_goals try simp only [Bool.not_eq_true', Bool.not_eq_true, Bool.not_eq_false] at *
          all_goals cbv
          all_goals repeat (first | (refine Exists.intro _ (Exists.intro _ (And.intro (by (try simp only [List.length_replicate, Int.zero_tmod, toIs_ii, ii_len, Int.zero_tdiv, w0, hA, nE, shl, shr, std, zE32, zE64, nc, nth_rd', i64w, u32_wrap, p32, p31, p63, w6432, toIs_len, set_toIs, repl_toIs, app_toIs, tos1, tos0, p1, take_toIs, drop_toIs, ieq_iff, ieq_iff', ilt_iff, ilt_iff', ile_iff, ile_iff', gt_iff_lt, ge_iff_le, Bool.not_eq_true', Bool.not_eq_false', List.drop_zero, Nat.sub_zero]); assumption) ?_)); cbv) | (refine Exists.intro _ (And.intro (by (try simp only [List.length_replicate, Int.zero_tmod, toIs_ii, ii_len, Int.zero_tdiv, w0, hA, nE, shl, shr, std, zE32, zE64, nc, nth_rd', i64w, u32_wrap, p32, p31, p63, w6432, toIs_len, set_toIs, repl_toIs, app_toIs, tos1, tos0, p1, take_toIs, drop_toIs, ieq_iff, ieq_iff', ilt_iff, ilt_iff', ile_iff, ile_iff', gt_iff_lt, ge_iff_le, Bool.not_eq_true', Bool.not_eq_false', List.drop_zero, Nat.sub_zero]); assumption) ?_); cbv) | (refine And.intro (by (try simp only [List.length_replicate, Int.zero_tmod, toIs_ii, ii_len, Int.zero_tdiv, w0, hA, nE, shl, shr, std, zE32, zE64, nc, nth_rd', i64w, u32_wrap, p32, p31, p63, w6432, toIs_len, set_toIs, repl_toIs, app_toIs, tos1, tos0, p1, take_toIs, drop_toIs, ieq_iff, ieq_iff', ilt_iff, ilt_iff', ile_iff, ile_iff', gt_iff_lt, ge_iff_le, Bool.not_eq_true', Bool.not_eq_false', List.drop_zero, Nat.sub_zero]); first | done | exact ix ‹_› ‹_› | exact ix (Int.le_refl 0) ‹_› | decide | exact ap4 ‹_› | exact ap8 ‹_› | exact mk4 ‹_› ‹_› | exact mk8 ‹_› ‹_› | exact ix' ‹_› ‹_› | assumption | omega) ?_; cbv) | (split <;> rename_i hz <;> (try simp only [List.length_replicate, Int.zero_tmod, toIs_ii, ii_len, Int.zero_tdiv, w0, hA, nE, shl, shr, std, zE32, zE64, nc, nth_rd', i64w, u32_wrap, p32, p31, p63, w6432, toIs_len, set_toIs, repl_toIs, app_toIs, tos1, tos0, p1, take_toIs, drop_toIs, ieq_iff, ieq_iff', ilt_iff, ilt_iff', ile_iff, ile_iff', gt_iff_lt, ge_iff_le, Bool.not_eq_true', Bool.not_eq_false', List.drop_zero, Nat.sub_zero] at hz) <;> first | contradiction | (exfalso; omega) | (exfalso; have hz2 := hz.symm.trans ‹_ = true›; cases hz2; done) | (exfalso; have hz2 := hz.symm.trans ‹_ = false›; cases hz2; done) | cbv))
          all_goals try (refine ⟨n0, by omega, ?_⟩; cbv; (iterate 5 apply Exists.intro); refine ⟨?_, ?_⟩; cbv; refine ⟨by ((try simp only [hA, nE, std, zE32, zE64, nc]); first | done | exact set_wf ‹_› _ _ | exact repl_ii _ _ _ | exact app_wf ‹_› _ | exact take_wf ‹_› _ | assumption | exact ii_wf _ _ | exact take_wf (ii_wf _ _) _ | rfl), ?_⟩; refine ⟨by omega, ?_⟩; simpa only [List.length_replicate, Int.zero_tmod, toIs_ii, ii_len, Int.zero_tdiv, w0, hA, nE, shl, shr, std, zE32, zE64, nc, nth_rd', i64w, u32_wrap, p32, p31, p63, w6432, toIs_len, set_toIs, repl_toIs, app_toIs, tos1, tos0, p1, take_toIs, drop_toIs, ieq_iff, ieq_iff', ilt_iff, ilt_iff', ile_iff, ile_iff', gt_iff_lt, ge_iff_le, Bool.not_eq_true', Bool.not_eq_false', List.drop_zero, Nat.sub_zero] using hi)
          all_goals try (refine fin2 h ?_ ?_ <;> (try simp only [List.length_replicate, Int.zero_tmod, toIs_ii, ii_len, Int.zero_tdiv, w0, hA, nE, shl, shr, std, zE32, zE64, nc, nth_rd', i64w, u32_wrap, p32, p31, p63, w6432, toIs_len, set_toIs, repl_toIs, app_toIs, tos1, tos0, p1, take_toIs, drop_toIs, ieq_iff, ieq_iff', ilt_iff, ilt_iff', ile_iff, ile_iff', gt_iff_lt, ge_iff_le, Bool.not_eq_true', Bool.not_eq_false', List.drop_zero, Nat.sub_zero]) <;> first | rfl | (refine congrArg _ ?_; exact set_ii' ‹_› _ _); done)
  · exact h.elim
def giveRun (A : Lz) (args : List FV) (q : FV → FV → Prop) : Prop :=
  match args with
  | [.row (.int .u32) a, .row (.int .u32) b, .int .i64 p] => ∃ k r, nat_give.f k (toIs a) (toIs b) p = some r ∧ q (.tup []) (.row (.int .u32) (A _ fun _ => ii .u32 r))
  | _ => False
theorem give_ok : SpecOk EV 119 ⟨true, giveRun⟩ := by
  refine .shaped 4 (spec_go (.nil _) (fn := Tryd.f119) rfl rfl Tryd.func119 rfl true [] _ ?_)
  rintro A hA args q ⟨hw, h⟩
  unfold giveRun at h
  split at h
  · rename_i a b p
    obtain ⟨k, r, hf, h⟩ := h
    try simp only [std] at h
    have wa := wf_ii (hw _ (.head _))
    have wb := wf_ii (hw _ (.tail _ (.head _)))
    refine ⟨Nat.le_of_ble_eq_true rfl, ?_⟩
    unfold nat_give.f at hf
    try simp only [toIs_len] at hf
    repeat' first | split at hf | (rw [Option.bind_eq_some_iff] at hf; obtain ⟨_, hy, hf⟩ := hf; try (cases hy))
    all_goals try cases hf
    all_goals try simp only [Bool.not_eq_true', Bool.not_eq_true, Bool.not_eq_false] at *
    all_goals cbv
    all_goals repeat (first | (refine Exists.intro _ (Exists.intro _ (And.intro (by (try simp only [List.length_replicate, Int.zero_tmod, toIs_ii, ii_len, Int.zero_tdiv, w0, hA, nE, shl, shr, std, zE32, zE64, nc, nth_rd', i64w, u32_wrap, p32, p31, p63, w6432, toIs_len, set_toIs, repl_toIs, app_toIs, tos1, tos0, p1, take_toIs, drop_toIs, ieq_iff, ieq_iff', ilt_iff, ilt_iff', ile_iff, ile_iff', gt_iff_lt, ge_iff_le, Bool.not_eq_true', Bool.not_eq_false', List.drop_zero, Nat.sub_zero]); assumption) ?_)); cbv) | (refine Exists.intro _ (And.intro (by (try simp only [List.length_replicate, Int.zero_tmod, toIs_ii, ii_len, Int.zero_tdiv, w0, hA, nE, shl, shr, std, zE32, zE64, nc, nth_rd', i64w, u32_wrap, p32, p31, p63, w6432, toIs_len, set_toIs, repl_toIs, app_toIs, tos1, tos0, p1, take_toIs, drop_toIs, ieq_iff, ieq_iff', ilt_iff, ilt_iff', ile_iff, ile_iff', gt_iff_lt, ge_iff_le, Bool.not_eq_true', Bool.not_eq_false', List.drop_zero, Nat.sub_zero]); assumption) ?_); cbv) | (refine And.intro (by (try simp only [List.length_replicate, Int.zero_tmod, toIs_ii, ii_len, Int.zero_tdiv, w0, hA, nE, shl, shr, std, zE32, zE64, nc, nth_rd', i64w, u32_wrap, p32, p31, p63, w6432, toIs_len, set_toIs, repl_toIs, app_toIs, tos1, tos0, p1, take_toIs, drop_toIs, ieq_iff, ieq_iff', ilt_iff, ilt_iff', ile_iff, ile_iff', gt_iff_lt, ge_iff_le, Bool.not_eq_true', Bool.not_eq_false', List.drop_zero, Nat.sub_zero]); first | done | exact ix ‹_› ‹_› | exact ix (Int.le_refl 0) ‹_› | decide | exact ap4 ‹_› | exact ap8 ‹_› | exact mk4 ‹_› ‹_› | exact mk8 ‹_› ‹_› | exact ix' ‹_› ‹_› | assumption | omega) ?_; cbv) | (split <;> rename_i hz <;> (try simp only [List.length_replicate, Int.zero_tmod, toIs_ii, ii_len, Int.zero_tdiv, w0, hA, nE, shl, shr, std, zE32, zE64, nc, nth_rd', i64w, u32_wrap, p32, p31, p63, w6432, toIs_len, set_toIs, repl_toIs, app_toIs, tos1, tos0, p1, take_toIs, drop_toIs, ieq_iff, ieq_iff', ilt_iff, ilt_iff', ile_iff, ile_iff', gt_iff_lt, ge_iff_le, Bool.not_eq_true', Bool.not_eq_false', List.drop_zero, Nat.sub_zero] at hz) <;> first | contradiction | (exfalso; omega) | (exfalso; have hz2 := hz.symm.trans ‹_ = true›; cases hz2; done) | (exfalso; have hz2 := hz.symm.trans ‹_ = false›; cases hz2; done) | cbv))
    all_goals try (refine fin2 h ?_ ?_ <;> (try simp only [List.length_replicate, Int.zero_tmod, toIs_ii, ii_len, Int.zero_tdiv, w0, hA, nE, shl, shr, std, zE32, zE64, nc, nth_rd', i64w, u32_wrap, p32, p31, p63, w6432, toIs_len, set_toIs, repl_toIs, app_toIs, tos1, tos0, p1, take_toIs, drop_toIs, ieq_iff, ieq_iff', ilt_iff, ilt_iff', ile_iff, ile_iff', gt_iff_lt, ge_iff_le, Bool.not_eq_true', Bool.not_eq_false', List.drop_zero, Nat.sub_zero]) <;> first | rfl | (refine congrArg _ ?_; exact set_ii' ‹_› _ _); done)
    · refine (loop_intro hA [(0, .own (.int .u32)), (1, .keep), (2, .keep), (6, .keep), (9, .keep), (10, .keep)] (fun n s => ∃ o x e i, s = st [(0, .own 0 0), (1, .row (.int .u32) b), (2, .int .i64 p), (6, .int .u64 x), (9, .int .i64 e), (10, .int .i64 i)] [(0, ⟨0, true, .arr (.int .u32) false o⟩)] ∧ o = ii .u32 (toIs o) ∧ n ≤ k ∧ nat_give.l0 n (toIs o) (toIs b) p x e i = some r) k ?_ ?_)
      · cbv
        (iterate 4 apply Exists.intro); refine ⟨?_, ?_⟩; cbv; refine ⟨by ((try simp only [hA, nE, std, zE32, zE64, nc]); first | done | exact set_wf ‹_› _ _ | exact repl_ii _ _ _ | exact app_wf ‹_› _ | exact take_wf ‹_› _ | assumption | exact ii_wf _ _ | exact take_wf (ii_wf _ _) _ | rfl), ?_⟩
        refine ⟨Nat.le_refl _, ?_⟩
        simpa only [List.length_replicate, Int.zero_tmod, toIs_ii, ii_len, Int.zero_tdiv, w0, hA, nE, shl, shr, std, zE32, zE64, nc, nth_rd', i64w, u32_wrap, p32, p31, p63, w6432, toIs_len, set_toIs, repl_toIs, app_toIs, tos1, tos0, p1, take_toIs, drop_toIs, ieq_iff, ieq_iff', ilt_iff, ilt_iff', ile_iff, ile_iff', gt_iff_lt, ge_iff_le, Bool.not_eq_true', Bool.not_eq_false', List.drop_zero, Nat.sub_zero] using hf
      · rintro n0 s ⟨o, x, e, i, rfl, wo, hle0, hi⟩
        cases n0 with
        | zero => cases hi
        | succ n0 =>
          unfold nat_give.l0 at hi
          try simp only [toIs_len] at hi
          repeat' first | split at hi | (rw [Option.bind_eq_some_iff] at hi; obtain ⟨_, hy, hi⟩ := hi; try (cases hy))
          all_goals try cases hi
          all_goals try simp only [Bool.not_eq_true', Bool.not_eq_true, Bool.not_eq_false] at *
          all_goals cbv
          all_goals repeat (first | (refine Exists.intro _ (Exists.intro _ (And.intro (by (try simp only [List.length_replicate, Int.zero_tmod, toIs_ii, ii_len, Int.zero_tdiv, w0, hA, nE, shl, shr, std, zE32, zE64, nc, nth_rd', i64w, u32_wrap, p32, p31, p63, w6432, toIs_len, set_toIs, repl_toIs, app_toIs, tos1, tos0, p1, take_toIs, drop_toIs, ieq_iff, ieq_iff', ilt_iff, ilt_iff', ile_iff, ile_iff', gt_iff_lt, ge_iff_le, Bool.not_eq_true', Bool.not_eq_false', List.drop_zero, Nat.sub_zero]); assumption) ?_)); cbv) | (refine Exists.intro _ (And.intro (by (try simp only [List.length_replicate, Int.zero_tmod, toIs_ii, ii_len, Int.zero_tdiv, w0, hA, nE, shl, shr, std, zE32, zE64, nc, nth_rd', i64w, u32_wrap, p32, p31, p63, w6432, toIs_len, set_toIs, repl_toIs, app_toIs, tos1, tos0, p1, take_toIs, drop_toIs, ieq_iff, ieq_iff', ilt_iff, ilt_iff', ile_iff, ile_iff', gt_iff_lt, ge_iff_le, Bool.not_eq_true', Bool.not_eq_false', List.drop_zero, Nat.sub_zero]); assumption) ?_); cbv) | (refine And.intro (by (try simp only [List.length_replicate, Int.zero_tmod, toIs_ii, ii_len, Int.zero_tdiv, w0, hA, nE, shl, shr, std, zE32, zE64, nc, nth_rd', i64w, u32_wrap, p32, p31, p63, w6432, toIs_len, set_toIs, repl_toIs, app_toIs, tos1, tos0, p1, take_toIs, drop_toIs, ieq_iff, ieq_iff', ilt_iff, ilt_iff', ile_iff, ile_iff', gt_iff_lt, ge_iff_le, Bool.not_eq_true', Bool.not_eq_false', List.drop_zero, Nat.sub_zero]); first | done | exact ix ‹_› ‹_› | exact ix (Int.le_refl 0) ‹_› | decide | exact ap4 ‹_› | exact ap8 ‹_› | exact mk4 ‹_› ‹_› | exact mk8 ‹_› ‹_› | exact ix' ‹_› ‹_› | assumption | omega) ?_; cbv) | (split <;> rename_i hz <;> (try simp only [List.length_replicate, Int.zero_tmod, toIs_ii, ii_len, Int.zero_tdiv, w0, hA, nE, shl, shr, std, zE32, zE64, nc, nth_rd', i64w, u32_wrap, p32, p31, p63, w6432, toIs_len, set_toIs, repl_toIs, app_toIs, tos1, tos0, p1, take_toIs, drop_toIs, ieq_iff, ieq_iff', ilt_iff, ilt_iff', ile_iff, ile_iff', gt_iff_lt, ge_iff_le, Bool.not_eq_true', Bool.not_eq_false', List.drop_zero, Nat.sub_zero] at hz) <;> first | contradiction | (exfalso; omega) | (exfalso; have hz2 := hz.symm.trans ‹_ = true›; cases hz2; done) | (exfalso; have hz2 := hz.symm.trans ‹_ = false›; cases hz2; done) | cbv))
          all_goals try (refine ⟨n0, by omega, ?_⟩; cbv; (iterate 4 apply Exists.intro); refine ⟨?_, ?_⟩; cbv; refine ⟨by ((try simp only [hA, nE, std, zE32, zE64, nc]); first | done | exact set_wf ‹_› _ _ | exact repl_ii _ _ _ | exact app_wf ‹_› _ | exact take_wf ‹_› _ | assumption | exact ii_wf _ _ | exact take_wf (ii_wf _ _) _ | rfl), ?_⟩; refine ⟨by omega, ?_⟩; simpa only [List.length_replicate, Int.zero_tmod, toIs_ii, ii_len, Int.zero_tdiv, w0, hA, nE, shl, shr, std, zE32, zE64, nc, nth_rd', i64w, u32_wrap, p32, p31, p63, w6432, toIs_len, set_toIs, repl_toIs, app_toIs, tos1, tos0, p1, take_toIs, drop_toIs, ieq_iff, ieq_iff', ilt_iff, ilt_iff', ile_iff, ile_iff', gt_iff_lt, ge_iff_le, Bool.not_eq_true', Bool.not_eq_false', List.drop_zero, Nat.sub_zero] using hi)
          all_goals try (refine fin2 h ?_ ?_ <;> (try simp only [List.length_replicate, Int.zero_tmod, toIs_ii, ii_len, Int.zero_tdiv, w0, hA, nE, shl, shr, std, zE32, zE64, nc, nth_rd', i64w, u32_wrap, p32, p31, p63, w6432, toIs_len, set_toIs, repl_toIs, app_toIs, tos1, tos0, p1, take_toIs, drop_toIs, ieq_iff, ieq_iff', ilt_iff, ilt_iff', ile_iff, ile_iff', gt_iff_lt, ge_iff_le, Bool.not_eq_true', Bool.not_eq_false', List.drop_zero, Nat.sub_zero]) <;> first | rfl | (refine congrArg _ ?_; exact set_ii' ‹_› _ _); done)
  · exact h.elim
end Go.Proofs.YtjipfimhmfhmhaaDoor.Z
