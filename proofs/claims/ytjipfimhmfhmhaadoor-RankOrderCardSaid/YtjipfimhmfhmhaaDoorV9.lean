/- The program's naturals over plain data. No condition. -/
import Derived.Test.YtjipfimhmfhmhaaDoorV8
namespace Go.Proofs.YtjipfimhmfhmhaaDoor.Z
open Go Go.RowKit Go.Proofs.YtjipfimhmfhmhaaDoor.E Go.Proofs.YtjipfimhmfhmhaaDoor.G Go.Proofs.YtjipfimhmfhmhaaDoor.K Go.Proofs.YtjipfimhmfhmhaaDoor.F
open Go.Proofs.YtjipfimhmfhmhaaDoorW.PrintWords hiding rd
set_option linter.all false

set_option maxRecDepth 100000
set_option maxHeartbeats 4000000
/-- slices.Clone of a natural. -/
def clnRun (A : Lz) (args : List FV) (q : FV → FV → Prop) : Prop :=
  match args with
  | [.row (.int .u32) a] => ∃ r, api_Nat_uint32.f (toIs a) = some r ∧ q (.new (.int .u32) (A _ fun _ => ii .u32 r)) .dead
  | _ => False
theorem cln_ok : SpecOk EV 102 ⟨false, clnRun⟩ := by
  refine clone_nat_ok.less fun xs q hw h => ?_
  unfold clnRun at h
  split at h
  · rename_i a
    obtain ⟨r, hf, h⟩ := h
    have wa := wf_ii (hw _ (.head _))
    unfold api_Nat_uint32.f at hf
    have hf : (if ([] : List Int).length + (toIs a).length < 35184372088832 then some ([] ++ toIs a) else none) = some r := hf
    split at hf
    · rename_i hl
      cases hf
      refine ⟨rfl, fun _ => ?_, ?_⟩
      · simp only [toIs_len, List.length_nil] at hl
        unfold room maxRoom
        omega
      · simp only [std] at h ⊢
        rw [List.nil_append, ← wa] at h
        exact h
    · cases hf
  · exact h.elim
def lzRun (A : Lz) (args : List FV) (q : FV → FV → Prop) : Prop :=
  match args with
  | [.int .u32 a] => ∃ r, bits_LeadingZeros32.f a = some r ∧ q (.int .i64 r) .dead
  | _ => False
theorem lz_ok : SpecOk EV 115 ⟨false, lzRun⟩ := by
  refine .shaped 4 (spec_go (.cons (f := 123) len_ok (.nil _)) (fn := Tryd.f115) rfl rfl Tryd.func115 rfl false [] _ ?_)
  rintro A hA args q ⟨hw, h⟩
  unfold lzRun at h
  split at h
  · rename_i a
    obtain ⟨r, hf, h⟩ := h
    try simp only [std] at h
    refine ⟨Nat.le_of_ble_eq_true rfl, ?_⟩
    unfold bits_LeadingZeros32.f at hf
    try simp only [toIs_len] at hf
    repeat' first | split at hf | (rw [Option.bind_eq_some_iff] at hf; obtain ⟨_, hy, hf⟩ := hf; try (cases hy))
    all_goals try cases hf
    all_goals try simp only [Bool.not_eq_true', Bool.not_eq_true, Bool.not_eq_false] at *
    all_goals cbv
    all_goals repeat (first | (refine Exists.intro _ (Exists.intro _ (And.intro (by (try simp only [List.length_replicate, Int.zero_tmod, toIs_ii, ii_len, Int.zero_tdiv, w0, hA, nE, shl, shr, std, zE32, zE64, nc, nth_rd', i64w, u32_wrap, p32, p31, p63, w6432, toIs_len, set_toIs, repl_toIs, app_toIs, tos1, tos0, p1, take_toIs, drop_toIs, ieq_iff, ieq_iff', ilt_iff, ilt_iff', ile_iff, ile_iff', gt_iff_lt, ge_iff_le, Bool.not_eq_true', Bool.not_eq_false', List.drop_zero, Nat.sub_zero]); assumption) ?_)); cbv) | (refine Exists.intro _ (And.intro (by (try simp only [List.length_replicate, Int.zero_tmod, toIs_ii, ii_len, Int.zero_tdiv, w0, hA, nE, shl, shr, std, zE32, zE64, nc, nth_rd', i64w, u32_wrap, p32, p31, p63, w6432, toIs_len, set_toIs, repl_toIs, app_toIs, tos1, tos0, p1, take_toIs, drop_toIs, ieq_iff, ieq_iff', ilt_iff, ilt_iff', ile_iff, ile_iff', gt_iff_lt, ge_iff_le, Bool.not_eq_true', Bool.not_eq_false', List.drop_zero, Nat.sub_zero]); assumption) ?_); cbv) | (refine And.intro (by (try simp only [List.length_replicate, Int.zero_tmod, toIs_ii, ii_len, Int.zero_tdiv, w0, hA, nE, shl, shr, std, zE32, zE64, nc, nth_rd', i64w, u32_wrap, p32, p31, p63, w6432, toIs_len, set_toIs, repl_toIs, app_toIs, tos1, tos0, p1, take_toIs, drop_toIs, ieq_iff, ieq_iff', ilt_iff, ilt_iff', ile_iff, ile_iff', gt_iff_lt, ge_iff_le, Bool.not_eq_true', Bool.not_eq_false', List.drop_zero, Nat.sub_zero]); first | done | exact ix ‹_› ‹_› | exact ix (Int.le_refl 0) ‹_› | decide | exact ap4 ‹_› | exact ap8 ‹_› | exact mk4 ‹_› ‹_› | exact mk8 ‹_› ‹_› | exact ix' ‹_› ‹_› | assumption | omega) ?_; cbv) | (split <;> rename_i hz <;> (try simp only [List.length_replicate, Int.zero_tmod, toIs_ii, ii_len, Int.zero_tdiv, w0, hA, nE, shl, shr, std, zE32, zE64, nc, nth_rd', i64w, u32_wrap, p32, p31, p63, w6432, toIs_len, set_toIs, repl_toIs, app_toIs, tos1, tos0, p1, take_toIs, drop_toIs, ieq_iff, ieq_iff', ilt_iff, ilt_iff', ile_iff, ile_iff', gt_iff_lt, ge_iff_le, Bool.not_eq_true', Bool.not_eq_false', List.drop_zero, Nat.sub_zero] at hz) <;> first | contradiction | (exfalso; omega) | (exfalso; have hz2 := hz.symm.trans ‹_ = true›; cases hz2; done) | (exfalso; have hz2 := hz.symm.trans ‹_ = false›; cases hz2; done) | cbv))
    all_goals (refine fin1 h ?_; (try simp only [List.length_replicate, Int.zero_tmod, toIs_ii, ii_len, Int.zero_tdiv, w0, hA, nE, shl, shr, std, zE32, zE64, nc, nth_rd', i64w, u32_wrap, p32, p31, p63, w6432, toIs_len, set_toIs, repl_toIs, app_toIs, tos1, tos0, p1, take_toIs, drop_toIs, ieq_iff, ieq_iff', ilt_iff, ilt_iff', ile_iff, ile_iff', gt_iff_lt, ge_iff_le, Bool.not_eq_true', Bool.not_eq_false', List.drop_zero, Nat.sub_zero]); first | done | rfl)
  · exact h.elim
def longRun (A : Lz) (args : List FV) (q : FV → FV → Prop) : Prop :=
  match args with
  | [.row (.int .u32) a, .row (.int .u32) b] => ∃ k r, nat_long.f k (toIs a) (toIs b) = some r ∧ q (.tup [.row (.int .u32) (A _ fun _ => ii .u32 r.1), .row (.int .u32) (A _ fun _ => ii .u32 r.2)]) .dead
  | _ => False
theorem long_ok : SpecOk EV 109 ⟨false, longRun⟩ := by
  refine .shaped 4 (spec_go (.cons (f := 115) lz_ok (.cons (f := 116) shift_ok (.cons (f := 117) guess_ok (.cons (f := 118) take_ok (.cons (f := 119) give_ok (.cons (f := 120) unshift_ok (.cons (f := 66) trim_ok (.nil _)))))))) (fn := Tryd.f109) rfl rfl Tryd.func109 rfl false [] _ ?_)
  rintro A hA args q ⟨hw, h⟩
  unfold longRun at h
  split at h
  · rename_i a b
    obtain ⟨k, r, hf, h⟩ := h
    try simp only [std] at h
    have wa := wf_ii (hw _ (.head _))
    have wb := wf_ii (hw _ (.tail _ (.head _)))
    refine ⟨Nat.le_of_ble_eq_true rfl, ?_⟩
    unfold nat_long.f at hf
    try simp only [toIs_len] at hf
    repeat' first | split at hf | (rw [Option.bind_eq_some_iff] at hf; obtain ⟨_, hy, hf⟩ := hf; try (cases hy))
    all_goals try cases hf
    all_goals try simp only [Bool.not_eq_true', Bool.not_eq_true, Bool.not_eq_false] at *
    all_goals cbv
    all_goals repeat (first | (refine Exists.intro _ (Exists.intro _ (And.intro (by (try simp only [List.length_replicate, Int.zero_tmod, toIs_ii, ii_len, Int.zero_tdiv, w0, hA, nE, shl, shr, std, zE32, zE64, nc, nth_rd', i64w, u32_wrap, p32, p31, p63, w6432, toIs_len, set_toIs, repl_toIs, app_toIs, tos1, tos0, p1, take_toIs, drop_toIs, ieq_iff, ieq_iff', ilt_iff, ilt_iff', ile_iff, ile_iff', gt_iff_lt, ge_iff_le, Bool.not_eq_true', Bool.not_eq_false', List.drop_zero, Nat.sub_zero]); assumption) ?_)); cbv) | (refine Exists.intro _ (And.intro (by (try simp only [List.length_replicate, Int.zero_tmod, toIs_ii, ii_len, Int.zero_tdiv, w0, hA, nE, shl, shr, std, zE32, zE64, nc, nth_rd', i64w, u32_wrap, p32, p31, p63, w6432, toIs_len, set_toIs, repl_toIs, app_toIs, tos1, tos0, p1, take_toIs, drop_toIs, ieq_iff, ieq_iff', ilt_iff, ilt_iff', ile_iff, ile_iff', gt_iff_lt, ge_iff_le, Bool.not_eq_true', Bool.not_eq_false', List.drop_zero, Nat.sub_zero]); assumption) ?_); cbv) | (refine And.intro (by (try simp only [List.length_replicate, Int.zero_tmod, toIs_ii, ii_len, Int.zero_tdiv, w0, hA, nE, shl, shr, std, zE32, zE64, nc, nth_rd', i64w, u32_wrap, p32, p31, p63, w6432, toIs_len, set_toIs, repl_toIs, app_toIs, tos1, tos0, p1, take_toIs, drop_toIs, ieq_iff, ieq_iff', ilt_iff, ilt_iff', ile_iff, ile_iff', gt_iff_lt, ge_iff_le, Bool.not_eq_true', Bool.not_eq_false', List.drop_zero, Nat.sub_zero]); first | done | exact ix ‹_› ‹_› | exact ix (Int.le_refl 0) ‹_› | decide | exact ap4 ‹_› | exact ap8 ‹_› | exact mk4 ‹_› ‹_› | exact mk8 ‹_› ‹_› | exact ix' ‹_› ‹_› | assumption | omega) ?_; cbv) | (split <;> rename_i hz <;> (try simp only [List.length_replicate, Int.zero_tmod, toIs_ii, ii_len, Int.zero_tdiv, w0, hA, nE, shl, shr, std, zE32, zE64, nc, nth_rd', i64w, u32_wrap, p32, p31, p63, w6432, toIs_len, set_toIs, repl_toIs, app_toIs, tos1, tos0, p1, take_toIs, drop_toIs, ieq_iff, ieq_iff', ilt_iff, ilt_iff', ile_iff, ile_iff', gt_iff_lt, ge_iff_le, Bool.not_eq_true', Bool.not_eq_false', List.drop_zero, Nat.sub_zero] at hz) <;> first | contradiction | (exfalso; omega) | (exfalso; have hz2 := hz.symm.trans ‹_ = true›; cases hz2; done) | (exfalso; have hz2 := hz.symm.trans ‹_ = false›; cases hz2; done) | cbv))
    all_goals try (refine fin1 h ?_; (try simp only [List.length_replicate, Int.zero_tmod, toIs_ii, ii_len, Int.zero_tdiv, w0, hA, nE, shl, shr, std, zE32, zE64, nc, nth_rd', i64w, u32_wrap, p32, p31, p63, w6432, toIs_len, set_toIs, repl_toIs, app_toIs, tos1, tos0, p1, take_toIs, drop_toIs, ieq_iff, ieq_iff', ilt_iff, ilt_iff', ile_iff, ile_iff', gt_iff_lt, ge_iff_le, Bool.not_eq_true', Bool.not_eq_false', List.drop_zero, Nat.sub_zero]); first | done | rfl; done)
    · refine (loop_intro hA [(6, .keep), (7, .own (.int .u32)), (8, .row (.int .u32)), (9, .own (.int .u32)), (10, .keep)] (fun n s => ∃ u x y o p, s = st [(6, .int .i64 u), (7, .own 7 0), (8, .row (.int .u32) y), (9, .own 9 0), (10, .int .i64 p)] [(7, ⟨0, true, .arr (.int .u32) true x⟩), (9, ⟨0, true, .arr (.int .u32) true o⟩)] ∧ x = ii .u32 (toIs x) ∧ y = ii .u32 (toIs y) ∧ o = ii .u32 (toIs o) ∧ n ≤ k ∧ nat_long.l0 n u (toIs x) (toIs y) (toIs o) p = some r) k ?_ ?_)
      · cbv
        (iterate 5 apply Exists.intro); refine ⟨?_, ?_⟩; cbv; refine ⟨by ((try simp only [hA, nE, std, zE32, zE64, nc]); first | done | exact set_wf ‹_› _ _ | exact repl_ii _ _ _ | exact app_wf ‹_› _ | exact take_wf ‹_› _ | assumption | exact ii_wf _ _ | exact take_wf (ii_wf _ _) _ | rfl), ?_⟩; refine ⟨by ((try simp only [hA, nE, std, zE32, zE64, nc]); first | done | exact set_wf ‹_› _ _ | exact repl_ii _ _ _ | exact app_wf ‹_› _ | exact take_wf ‹_› _ | assumption | exact ii_wf _ _ | exact take_wf (ii_wf _ _) _ | rfl), ?_⟩; refine ⟨by ((try simp only [hA, nE, std, zE32, zE64, nc]); first | done | exact set_wf ‹_› _ _ | exact repl_ii _ _ _ | exact app_wf ‹_› _ | exact take_wf ‹_› _ | assumption | exact ii_wf _ _ | exact take_wf (ii_wf _ _) _ | rfl), ?_⟩
        refine ⟨Nat.le_refl _, ?_⟩
        simpa only [List.length_replicate, Int.zero_tmod, toIs_ii, ii_len, Int.zero_tdiv, w0, hA, nE, shl, shr, std, zE32, zE64, nc, nth_rd', i64w, u32_wrap, p32, p31, p63, w6432, toIs_len, set_toIs, repl_toIs, app_toIs, tos1, tos0, p1, take_toIs, drop_toIs, ieq_iff, ieq_iff', ilt_iff, ilt_iff', ile_iff, ile_iff', gt_iff_lt, ge_iff_le, Bool.not_eq_true', Bool.not_eq_false', List.drop_zero, Nat.sub_zero] using hf
      · rintro n0 s ⟨u, x, y, o, p, rfl, wx, wy, wo, hle0, hi⟩
        cases n0 with
        | zero => cases hi
        | succ n0 =>
          unfold nat_long.l0 at hi
          try simp only [toIs_len] at hi
          repeat' first | split at hi | (rw [Option.bind_eq_some_iff] at hi; obtain ⟨_, hy, hi⟩ := hi; try (cases hy))
          all_goals try cases hi
          all_goals try simp only [Bool.not_eq_true', Bool.not_eq_true, Bool.not_eq_false] at *
          all_goals cbv
          all_goals repeat (first | (refine Exists.intro _ (Exists.intro _ (And.intro (by (try simp only [List.length_replicate, Int.zero_tmod, toIs_ii, ii_len, Int.zero_tdiv, w0, hA, nE, shl, shr, std, zE32, zE64, nc, nth_rd', i64w, u32_wrap, p32, p31, p63, w6432, toIs_len, set_toIs, repl_toIs, app_toIs, tos1, tos0, p1, take_toIs, drop_toIs, ieq_iff, ieq_iff', ilt_iff, ilt_iff', ile_iff, ile_iff', gt_iff_lt, ge_iff_le, Bool.not_eq_true', Bool.not_eq_false', List.drop_zero, Nat.sub_zero]); assumption) ?_)); cbv) | (refine Exists.intro _ (And.intro (by (try simp only [List.length_replicate, Int.zero_tmod, toIs_ii, ii_len, Int.zero_tdiv, w0, hA, nE, shl, shr, std, zE32, zE64, nc, nth_rd', i64w, u32_wrap, p32, p31, p63, w6432, toIs_len, set_toIs, repl_toIs, app_toIs, tos1, tos0, p1, take_toIs, drop_toIs, ieq_iff, ieq_iff', ilt_iff, ilt_iff', ile_iff, ile_iff', gt_iff_lt, ge_iff_le, Bool.not_eq_true', Bool.not_eq_false', List.drop_zero, Nat.sub_zero]); assumption) ?_); cbv) | (refine And.intro (by (try simp only [List.length_replicate, Int.zero_tmod, toIs_ii, ii_len, Int.zero_tdiv, w0, hA, nE, shl, shr, std, zE32, zE64, nc, nth_rd', i64w, u32_wrap, p32, p31, p63, w6432, toIs_len, set_toIs, repl_toIs, app_toIs, tos1, tos0, p1, take_toIs, drop_toIs, ieq_iff, ieq_iff', ilt_iff, ilt_iff', ile_iff, ile_iff', gt_iff_lt, ge_iff_le, Bool.not_eq_true', Bool.not_eq_false', List.drop_zero, Nat.sub_zero]); first | done | exact ix ‹_› ‹_› | exact ix (Int.le_refl 0) ‹_› | decide | exact ap4 ‹_› | exact ap8 ‹_› | exact mk4 ‹_› ‹_› | exact mk8 ‹_› ‹_› | exact ix' ‹_› ‹_› | assumption | omega) ?_; cbv) | (split <;> rename_i hz <;> (try simp only [List.length_replicate, Int.zero_tmod, toIs_ii, ii_len, Int.zero_tdiv, w0, hA, nE, shl, shr, std, zE32, zE64, nc, nth_rd', i64w, u32_wrap, p32, p31, p63, w6432, toIs_len, set_toIs, repl_toIs, app_toIs, tos1, tos0, p1, take_toIs, drop_toIs, ieq_iff, ieq_iff', ilt_iff, ilt_iff', ile_iff, ile_iff', gt_iff_lt, ge_iff_le, Bool.not_eq_true', Bool.not_eq_false', List.drop_zero, Nat.sub_zero] at hz) <;> first | contradiction | (exfalso; omega) | (exfalso; have hz2 := hz.symm.trans ‹_ = true›; cases hz2; done) | (exfalso; have hz2 := hz.symm.trans ‹_ = false›; cases hz2; done) | cbv))
          all_goals try (refine ⟨n0, by omega, ?_⟩; cbv; (iterate 5 apply Exists.intro); refine ⟨?_, ?_⟩; cbv; refine ⟨by ((try simp only [hA, nE, std, zE32, zE64, nc]); first | done | exact set_wf ‹_› _ _ | exact repl_ii _ _ _ | exact app_wf ‹_› _ | exact take_wf ‹_› _ | assumption | exact ii_wf _ _ | exact take_wf (ii_wf _ _) _ | rfl), ?_⟩; refine ⟨by ((try simp only [hA, nE, std, zE32, zE64, nc]); first | done | exact set_wf ‹_› _ _ | exact repl_ii _ _ _ | exact app_wf ‹_› _ | exact take_wf ‹_› _ | assumption | exact ii_wf _ _ | exact take_wf (ii_wf _ _) _ | rfl), ?_⟩; refine ⟨by ((try simp only [hA, nE, std, zE32, zE64, nc]); first | done | exact set_wf ‹_› _ _ | exact repl_ii _ _ _ | exact app_wf ‹_› _ | exact take_wf ‹_› _ | assumption | exact ii_wf _ _ | exact take_wf (ii_wf _ _) _ | rfl), ?_⟩; refine ⟨by omega, ?_⟩; simpa only [List.length_replicate, Int.zero_tmod, toIs_ii, ii_len, Int.zero_tdiv, w0, hA, nE, shl, shr, std, zE32, zE64, nc, nth_rd', i64w, u32_wrap, p32, p31, p63, w6432, toIs_len, set_toIs, repl_toIs, app_toIs, tos1, tos0, p1, take_toIs, drop_toIs, ieq_iff, ieq_iff', ilt_iff, ilt_iff', ile_iff, ile_iff', gt_iff_lt, ge_iff_le, Bool.not_eq_true', Bool.not_eq_false', List.drop_zero, Nat.sub_zero] using hi)
          all_goals try (refine fin1 h ?_; (try simp only [List.length_replicate, Int.zero_tmod, toIs_ii, ii_len, Int.zero_tdiv, w0, hA, nE, shl, shr, std, zE32, zE64, nc, nth_rd', i64w, u32_wrap, p32, p31, p63, w6432, toIs_len, set_toIs, repl_toIs, app_toIs, tos1, tos0, p1, take_toIs, drop_toIs, ieq_iff, ieq_iff', ilt_iff, ilt_iff', ile_iff, ile_iff', gt_iff_lt, ge_iff_le, Bool.not_eq_true', Bool.not_eq_false', List.drop_zero, Nat.sub_zero]); first | done | rfl; done)
  · exact h.elim
def spltRun (A : Lz) (args : List FV) (q : FV → FV → Prop) : Prop :=
  match args with
  | [.row (.int .u32) a, .row (.int .u32) b] => ∃ k r, nat_split.f k (toIs a) (toIs b) = some r ∧ q (.tup [.row (.int .u32) (A _ fun _ => ii .u32 r.1), .row (.int .u32) (A _ fun _ => ii .u32 r.2)]) .dead
  | _ => False
theorem splt_ok : SpecOk EV 101 ⟨false, spltRun⟩ := by
  refine .fit [.row (.int .u32), .row (.int .u32)] (spec_go (.cons (f := 81) order_ok (.cons (f := 102) cln_ok (.cons (f := 88) short_ok (.cons (f := 41) of_ok (.cons (f := 109) long_ok (.nil _)))))) (fn := Tryd.f101) rfl rfl Tryd.func101 rfl false [] _ ?_)
  rintro A hA args q0 ⟨hw, q, hq, h⟩
  unfold spltRun at h
  split at h
  · rename_i a b
    obtain ⟨k, r, hf, h⟩ := h
    try simp only [std] at h
    have wa := wf_ii (hw _ (.head _))
    have wb := wf_ii (hw _ (.tail _ (.head _)))
    refine ⟨Nat.le_of_ble_eq_true rfl, ?_⟩
    unfold nat_split.f at hf
    try simp only [toIs_len] at hf
    repeat' first | split at hf | (rw [Option.bind_eq_some_iff] at hf; obtain ⟨_, hy, hf⟩ := hf; try (cases hy))
    all_goals try cases hf
    all_goals try simp only [Bool.not_eq_true', Bool.not_eq_true, Bool.not_eq_false] at *
    all_goals cbv
    all_goals repeat (first | (refine Exists.intro _ (Exists.intro _ (And.intro (by (try simp only [List.length_replicate, Int.zero_tmod, toIs_ii, ii_len, Int.zero_tdiv, w0, hA, nE, shl, shr, std, zE32, zE64, nc, nth_rd', i64w, u32_wrap, p32, p31, p63, w6432, toIs_len, set_toIs, repl_toIs, app_toIs, tos1, tos0, p1, take_toIs, drop_toIs, ieq_iff, ieq_iff', ilt_iff, ilt_iff', ile_iff, ile_iff', gt_iff_lt, ge_iff_le, Bool.not_eq_true', Bool.not_eq_false', List.drop_zero, Nat.sub_zero]); assumption) ?_)); cbv) | (refine Exists.intro _ (And.intro (by (try simp only [List.length_replicate, Int.zero_tmod, toIs_ii, ii_len, Int.zero_tdiv, w0, hA, nE, shl, shr, std, zE32, zE64, nc, nth_rd', i64w, u32_wrap, p32, p31, p63, w6432, toIs_len, set_toIs, repl_toIs, app_toIs, tos1, tos0, p1, take_toIs, drop_toIs, ieq_iff, ieq_iff', ilt_iff, ilt_iff', ile_iff, ile_iff', gt_iff_lt, ge_iff_le, Bool.not_eq_true', Bool.not_eq_false', List.drop_zero, Nat.sub_zero]); assumption) ?_); cbv) | (refine And.intro (by (try simp only [List.length_replicate, Int.zero_tmod, toIs_ii, ii_len, Int.zero_tdiv, w0, hA, nE, shl, shr, std, zE32, zE64, nc, nth_rd', i64w, u32_wrap, p32, p31, p63, w6432, toIs_len, set_toIs, repl_toIs, app_toIs, tos1, tos0, p1, take_toIs, drop_toIs, ieq_iff, ieq_iff', ilt_iff, ilt_iff', ile_iff, ile_iff', gt_iff_lt, ge_iff_le, Bool.not_eq_true', Bool.not_eq_false', List.drop_zero, Nat.sub_zero]); first | done | exact ix ‹_› ‹_› | exact ix (Int.le_refl 0) ‹_› | decide | exact ap4 ‹_› | exact ap8 ‹_› | exact mk4 ‹_› ‹_› | exact mk8 ‹_› ‹_› | exact ix' ‹_› ‹_› | assumption | omega) ?_; cbv) | (split <;> rename_i hz <;> (try simp only [List.length_replicate, Int.zero_tmod, toIs_ii, ii_len, Int.zero_tdiv, w0, hA, nE, shl, shr, std, zE32, zE64, nc, nth_rd', i64w, u32_wrap, p32, p31, p63, w6432, toIs_len, set_toIs, repl_toIs, app_toIs, tos1, tos0, p1, take_toIs, drop_toIs, ieq_iff, ieq_iff', ilt_iff, ilt_iff', ile_iff, ile_iff', gt_iff_lt, ge_iff_le, Bool.not_eq_true', Bool.not_eq_false', List.drop_zero, Nat.sub_zero] at hz) <;> first | contradiction | (exfalso; omega) | (exfalso; have hz2 := hz.symm.trans ‹_ = true›; cases hz2; done) | (exfalso; have hz2 := hz.symm.trans ‹_ = false›; cases hz2; done) | cbv))
    all_goals (refine hq _ _ ?_; refine fin1 h ?_; (try simp only [List.length_replicate, Int.zero_tmod, toIs_ii, ii_len, Int.zero_tdiv, w0, hA, nE, shl, shr, std, zE32, zE64, nc, nth_rd', i64w, u32_wrap, p32, p31, p63, w6432, toIs_len, set_toIs, repl_toIs, app_toIs, tos1, tos0, p1, take_toIs, drop_toIs, ieq_iff, ieq_iff', ilt_iff, ilt_iff', ile_iff, ile_iff', gt_iff_lt, ge_iff_le, Bool.not_eq_true', Bool.not_eq_false', List.drop_zero, Nat.sub_zero]); first | done | rfl)
  · exact h.elim
def gcdRun (A : Lz) (args : List FV) (q : FV → FV → Prop) : Prop :=
  match args with
  | [.row (.int .u32) a, .row (.int .u32) b] => ∃ k r, nat_Gcd.f k (toIs a) (toIs b) = some r ∧ q (.tup [.row (.int .u32) (A _ fun _ => ii .u32 r.1), .int .i64 r.2]) .dead
  | _ => False
theorem gcd_ok : SpecOk EV 86 ⟨false, gcdRun⟩ := by
  refine .fit [.row (.int .u32)] (spec_go (.cons (f := 64) rt_ok (.cons (f := 101) splt_ok (.cons (f := 102) cln_ok (.nil _)))) (fn := Tryd.f86) rfl rfl Tryd.func86 rfl false [] _ ?_)
  rintro A hA args q0 ⟨hw, q, hq, h⟩
  unfold gcdRun at h
  split at h
  · rename_i a b
    obtain ⟨k, r, hf, h⟩ := h
    try simp only [std] at h
    have wa := wf_ii (hw _ (.head _))
    have wb := wf_ii (hw _ (.tail _ (.head _)))
    refine ⟨Nat.le_of_ble_eq_true rfl, ?_⟩
    unfold nat_Gcd.f at hf
    try simp only [toIs_len] at hf
    repeat' first | split at hf | (rw [Option.bind_eq_some_iff] at hf; obtain ⟨_, hy, hf⟩ := hf; try (cases hy)) | (rcases k with _ | k <;> unfold nat_Gcd.j0 at hf <;> (try simp only [toIs_len] at hf) <;> try (cases hf; done))
    all_goals try cases hf
    all_goals try simp only [Bool.not_eq_true', Bool.not_eq_true, Bool.not_eq_false] at *
    all_goals cbv
    all_goals repeat (first | (refine Exists.intro _ (Exists.intro _ (And.intro (by (try simp only [List.length_replicate, Int.zero_tmod, toIs_ii, ii_len, Int.zero_tdiv, w0, hA, nE, shl, shr, std, zE32, zE64, nc, nth_rd', i64w, u32_wrap, p32, p31, p63, w6432, toIs_len, set_toIs, repl_toIs, app_toIs, tos1, tos0, p1, take_toIs, drop_toIs, ieq_iff, ieq_iff', ilt_iff, ilt_iff', ile_iff, ile_iff', gt_iff_lt, ge_iff_le, Bool.not_eq_true', Bool.not_eq_false', List.drop_zero, Nat.sub_zero]); assumption) ?_)); cbv) | (refine Exists.intro _ (And.intro (by (try simp only [List.length_replicate, Int.zero_tmod, toIs_ii, ii_len, Int.zero_tdiv, w0, hA, nE, shl, shr, std, zE32, zE64, nc, nth_rd', i64w, u32_wrap, p32, p31, p63, w6432, toIs_len, set_toIs, repl_toIs, app_toIs, tos1, tos0, p1, take_toIs, drop_toIs, ieq_iff, ieq_iff', ilt_iff, ilt_iff', ile_iff, ile_iff', gt_iff_lt, ge_iff_le, Bool.not_eq_true', Bool.not_eq_false', List.drop_zero, Nat.sub_zero]); assumption) ?_); cbv) | (refine And.intro (by (try simp only [List.length_replicate, Int.zero_tmod, toIs_ii, ii_len, Int.zero_tdiv, w0, hA, nE, shl, shr, std, zE32, zE64, nc, nth_rd', i64w, u32_wrap, p32, p31, p63, w6432, toIs_len, set_toIs, repl_toIs, app_toIs, tos1, tos0, p1, take_toIs, drop_toIs, ieq_iff, ieq_iff', ilt_iff, ilt_iff', ile_iff, ile_iff', gt_iff_lt, ge_iff_le, Bool.not_eq_true', Bool.not_eq_false', List.drop_zero, Nat.sub_zero]); first | done | exact ix ‹_› ‹_› | exact ix (Int.le_refl 0) ‹_› | decide | exact ap4 ‹_› | exact ap8 ‹_› | exact mk4 ‹_› ‹_› | exact mk8 ‹_› ‹_› | exact ix' ‹_› ‹_› | assumption | omega) ?_; cbv) | (split <;> rename_i hz <;> (try simp only [List.length_replicate, Int.zero_tmod, toIs_ii, ii_len, Int.zero_tdiv, w0, hA, nE, shl, shr, std, zE32, zE64, nc, nth_rd', i64w, u32_wrap, p32, p31, p63, w6432, toIs_len, set_toIs, repl_toIs, app_toIs, tos1, tos0, p1, take_toIs, drop_toIs, ieq_iff, ieq_iff', ilt_iff, ilt_iff', ile_iff, ile_iff', gt_iff_lt, ge_iff_le, Bool.not_eq_true', Bool.not_eq_false', List.drop_zero, Nat.sub_zero] at hz) <;> first | contradiction | (exfalso; omega) | (exfalso; have hz2 := hz.symm.trans ‹_ = true›; cases hz2; done) | (exfalso; have hz2 := hz.symm.trans ‹_ = false›; cases hz2; done) | cbv))
    all_goals try (refine hq _ _ ?_; refine fin1 h ?_; (try simp only [List.length_replicate, Int.zero_tmod, toIs_ii, ii_len, Int.zero_tdiv, w0, hA, nE, shl, shr, std, zE32, zE64, nc, nth_rd', i64w, u32_wrap, p32, p31, p63, w6432, toIs_len, set_toIs, repl_toIs, app_toIs, tos1, tos0, p1, take_toIs, drop_toIs, ieq_iff, ieq_iff', ilt_iff, ilt_iff', ile_iff, ile_iff', gt_iff_lt, ge_iff_le, Bool.not_eq_true', Bool.not_eq_false', List.drop_zero, Nat.sub_zero]); first | done | rfl; done)
    · refine (loop_intro hA [(0, .row (.int .u32)), (1, .row (.int .u32))] (fun n s => ∃ a b, s = st [(0, .row (.int .u32) a), (1, .row (.int .u32) b)] [] ∧ a = ii .u32 (toIs a) ∧ b = ii .u32 (toIs b) ∧ n ≤ k ∧ nat_Gcd.l0 n (toIs a) (toIs b) = some r) k ?_ ?_)
      · cbv
        (iterate 2 apply Exists.intro); refine ⟨?_, ?_⟩; cbv; refine ⟨by ((try simp only [hA, nE, std, zE32, zE64, nc]); first | done | exact set_wf ‹_› _ _ | exact repl_ii _ _ _ | exact app_wf ‹_› _ | exact take_wf ‹_› _ | assumption | exact ii_wf _ _ | exact take_wf (ii_wf _ _) _ | rfl), ?_⟩; refine ⟨by ((try simp only [hA, nE, std, zE32, zE64, nc]); first | done | exact set_wf ‹_› _ _ | exact repl_ii _ _ _ | exact app_wf ‹_› _ | exact take_wf ‹_› _ | assumption | exact ii_wf _ _ | exact take_wf (ii_wf _ _) _ | rfl), ?_⟩
        refine ⟨Nat.le_refl _, ?_⟩
        simpa only [List.length_replicate, Int.zero_tmod, toIs_ii, ii_len, Int.zero_tdiv, w0, hA, nE, shl, shr, std, zE32, zE64, nc, nth_rd', i64w, u32_wrap, p32, p31, p63, w6432, toIs_len, set_toIs, repl_toIs, app_toIs, tos1, tos0, p1, take_toIs, drop_toIs, ieq_iff, ieq_iff', ilt_iff, ilt_iff', ile_iff, ile_iff', gt_iff_lt, ge_iff_le, Bool.not_eq_true', Bool.not_eq_false', List.drop_zero, Nat.sub_zero] using hf
      · rintro n0 s ⟨a, b, rfl, wa, wb, hle0, hi⟩
        cases n0 with
        | zero => cases hi
        | succ n0 =>
          unfold nat_Gcd.l0 at hi
          try simp only [toIs_len] at hi
          repeat' first | split at hi | (rw [Option.bind_eq_some_iff] at hi; obtain ⟨_, hy, hi⟩ := hi; try (cases hy)) | (rcases n0 with _ | n0 <;> unfold nat_Gcd.j0 at hi <;> (try simp only [toIs_len] at hi) <;> try (cases hi; done))
          all_goals try cases hi
          all_goals try simp only [Bool.not_eq_true', Bool.not_eq_true, Bool.not_eq_false] at *
          all_goals cbv
          all_goals repeat (first | (refine Exists.intro _ (Exists.intro _ (And.intro (by (try simp only [List.length_replicate, Int.zero_tmod, toIs_ii, ii_len, Int.zero_tdiv, w0, hA, nE, shl, shr, std, zE32, zE64, nc, nth_rd', i64w, u32_wrap, p32, p31, p63, w6432, toIs_len, set_toIs, repl_toIs, app_toIs, tos1, tos0, p1, take_toIs, drop_toIs, ieq_iff, ieq_iff', ilt_iff, ilt_iff', ile_iff, ile_iff', gt_iff_lt, ge_iff_le, Bool.not_eq_true', Bool.not_eq_false', List.drop_zero, Nat.sub_zero]); assumption) ?_)); cbv) | (refine Exists.intro _ (And.intro (by (try simp only [List.length_replicate, Int.zero_tmod, toIs_ii, ii_len, Int.zero_tdiv, w0, hA, nE, shl, shr, std, zE32, zE64, nc, nth_rd', i64w, u32_wrap, p32, p31, p63, w6432, toIs_len, set_toIs, repl_toIs, app_toIs, tos1, tos0, p1, take_toIs, drop_toIs, ieq_iff, ieq_iff', ilt_iff, ilt_iff', ile_iff, ile_iff', gt_iff_lt, ge_iff_le, Bool.not_eq_true', Bool.not_eq_false', List.drop_zero, Nat.sub_zero]); assumption) ?_); cbv) | (refine And.intro (by (try simp only [List.length_replicate, Int.zero_tmod, toIs_ii, ii_len, Int.zero_tdiv, w0, hA, nE, shl, shr, std, zE32, zE64, nc, nth_rd', i64w, u32_wrap, p32, p31, p63, w6432, toIs_len, set_toIs, repl_toIs, app_toIs, tos1, tos0, p1, take_toIs, drop_toIs, ieq_iff, ieq_iff', ilt_iff, ilt_iff', ile_iff, ile_iff', gt_iff_lt, ge_iff_le, Bool.not_eq_true', Bool.not_eq_false', List.drop_zero, Nat.sub_zero]); first | done | exact ix ‹_› ‹_› | exact ix (Int.le_refl 0) ‹_› | decide | exact ap4 ‹_› | exact ap8 ‹_› | exact mk4 ‹_› ‹_› | exact mk8 ‹_› ‹_› | exact ix' ‹_› ‹_› | assumption | omega) ?_; cbv) | (split <;> rename_i hz <;> (try simp only [List.length_replicate, Int.zero_tmod, toIs_ii, ii_len, Int.zero_tdiv, w0, hA, nE, shl, shr, std, zE32, zE64, nc, nth_rd', i64w, u32_wrap, p32, p31, p63, w6432, toIs_len, set_toIs, repl_toIs, app_toIs, tos1, tos0, p1, take_toIs, drop_toIs, ieq_iff, ieq_iff', ilt_iff, ilt_iff', ile_iff, ile_iff', gt_iff_lt, ge_iff_le, Bool.not_eq_true', Bool.not_eq_false', List.drop_zero, Nat.sub_zero] at hz) <;> first | contradiction | (exfalso; omega) | (exfalso; have hz2 := hz.symm.trans ‹_ = true›; cases hz2; done) | (exfalso; have hz2 := hz.symm.trans ‹_ = false›; cases hz2; done) | cbv))
          all_goals try (refine ⟨n0, by omega, ?_⟩; cbv; (iterate 2 apply Exists.intro); refine ⟨?_, ?_⟩; cbv; refine ⟨by ((try simp only [hA, nE, std, zE32, zE64, nc]); first | done | exact set_wf ‹_› _ _ | exact repl_ii _ _ _ | exact app_wf ‹_› _ | exact take_wf ‹_› _ | assumption | exact ii_wf _ _ | exact take_wf (ii_wf _ _) _ | rfl), ?_⟩; refine ⟨by ((try simp only [hA, nE, std, zE32, zE64, nc]); first | done | exact set_wf ‹_› _ _ | exact repl_ii _ _ _ | exact app_wf ‹_› _ | exact take_wf ‹_› _ | assumption | exact ii_wf _ _ | exact take_wf (ii_wf _ _) _ | rfl), ?_⟩; refine ⟨by omega, ?_⟩; simpa only [List.length_replicate, Int.zero_tmod, toIs_ii, ii_len, Int.zero_tdiv, w0, hA, nE, shl, shr, std, zE32, zE64, nc, nth_rd', i64w, u32_wrap, p32, p31, p63, w6432, toIs_len, set_toIs, repl_toIs, app_toIs, tos1, tos0, p1, take_toIs, drop_toIs, ieq_iff, ieq_iff', ilt_iff, ilt_iff', ile_iff, ile_iff', gt_iff_lt, ge_iff_le, Bool.not_eq_true', Bool.not_eq_false', List.drop_zero, Nat.sub_zero] using hi)
          all_goals try (refine hq _ _ ?_; refine fin1 h ?_; (try simp only [List.length_replicate, Int.zero_tmod, toIs_ii, ii_len, Int.zero_tdiv, w0, hA, nE, shl, shr, std, zE32, zE64, nc, nth_rd', i64w, u32_wrap, p32, p31, p63, w6432, toIs_len, set_toIs, repl_toIs, app_toIs, tos1, tos0, p1, take_toIs, drop_toIs, ieq_iff, ieq_iff', ilt_iff, ilt_iff', ile_iff, ile_iff', gt_iff_lt, ge_iff_le, Bool.not_eq_true', Bool.not_eq_false', List.drop_zero, Nat.sub_zero]); first | done | rfl; done)
  · exact h.elim
def divRun (A : Lz) (args : List FV) (q : FV → FV → Prop) : Prop :=
  match args with
  | [.row (.int .u32) a, .row (.int .u32) b] => ∃ k r, nat_Div.f k (toIs a) (toIs b) = some r ∧ q (.tup [.row (.int .u32) (A _ fun _ => ii .u32 r.1), .row (.int .u32) (A _ fun _ => ii .u32 r.2.1), .int .i64 r.2.2]) .dead
  | _ => False
theorem div_ok : SpecOk EV 91 ⟨false, divRun⟩ := by
  refine .fit [.row (.int .u32), .row (.int .u32)] (spec_go (.cons (f := 64) rt_ok (.cons (f := 101) splt_ok (.nil _))) (fn := Tryd.f91) rfl rfl Tryd.func91 rfl false [] _ ?_)
  rintro A hA args q0 ⟨hw, q, hq, h⟩
  unfold divRun at h
  split at h
  · rename_i a b
    obtain ⟨k, r, hf, h⟩ := h
    try simp only [std] at h
    have wa := wf_ii (hw _ (.head _))
    have wb := wf_ii (hw _ (.tail _ (.head _)))
    refine ⟨Nat.le_of_ble_eq_true rfl, ?_⟩
    unfold nat_Div.f at hf
    try simp only [toIs_len] at hf
    repeat' first | split at hf | (rw [Option.bind_eq_some_iff] at hf; obtain ⟨_, hy, hf⟩ := hf; try (cases hy)) | (rcases k with _ | k <;> unfold nat_Div.j0 at hf <;> (try simp only [toIs_len] at hf) <;> try (cases hf; done))
    all_goals try cases hf
    all_goals try simp only [Bool.not_eq_true', Bool.not_eq_true, Bool.not_eq_false] at *
    all_goals cbv
    all_goals repeat (first | (refine Exists.intro _ (Exists.intro _ (And.intro (by (try simp only [List.length_replicate, Int.zero_tmod, toIs_ii, ii_len, Int.zero_tdiv, w0, hA, nE, shl, shr, std, zE32, zE64, nc, nth_rd', i64w, u32_wrap, p32, p31, p63, w6432, toIs_len, set_toIs, repl_toIs, app_toIs, tos1, tos0, p1, take_toIs, drop_toIs, ieq_iff, ieq_iff', ilt_iff, ilt_iff', ile_iff, ile_iff', gt_iff_lt, ge_iff_le, Bool.not_eq_true', Bool.not_eq_false', List.drop_zero, Nat.sub_zero]); assumption) ?_)); cbv) | (refine Exists.intro _ (And.intro (by (try simp only [List.length_replicate, Int.zero_tmod, toIs_ii, ii_len, Int.zero_tdiv, w0, hA, nE, shl, shr, std, zE32, zE64, nc, nth_rd', i64w, u32_wrap, p32, p31, p63, w6432, toIs_len, set_toIs, repl_toIs, app_toIs, tos1, tos0, p1, take_toIs, drop_toIs, ieq_iff, ieq_iff', ilt_iff, ilt_iff', ile_iff, ile_iff', gt_iff_lt, ge_iff_le, Bool.not_eq_true', Bool.not_eq_false', List.drop_zero, Nat.sub_zero]); assumption) ?_); cbv) | (refine And.intro (by (try simp only [List.length_replicate, Int.zero_tmod, toIs_ii, ii_len, Int.zero_tdiv, w0, hA, nE, shl, shr, std, zE32, zE64, nc, nth_rd', i64w, u32_wrap, p32, p31, p63, w6432, toIs_len, set_toIs, repl_toIs, app_toIs, tos1, tos0, p1, take_toIs, drop_toIs, ieq_iff, ieq_iff', ilt_iff, ilt_iff', ile_iff, ile_iff', gt_iff_lt, ge_iff_le, Bool.not_eq_true', Bool.not_eq_false', List.drop_zero, Nat.sub_zero]); first | done | exact ix ‹_› ‹_› | exact ix (Int.le_refl 0) ‹_› | decide | exact ap4 ‹_› | exact ap8 ‹_› | exact mk4 ‹_› ‹_› | exact mk8 ‹_› ‹_› | exact ix' ‹_› ‹_› | assumption | omega) ?_; cbv) | (split <;> rename_i hz <;> (try simp only [List.length_replicate, Int.zero_tmod, toIs_ii, ii_len, Int.zero_tdiv, w0, hA, nE, shl, shr, std, zE32, zE64, nc, nth_rd', i64w, u32_wrap, p32, p31, p63, w6432, toIs_len, set_toIs, repl_toIs, app_toIs, tos1, tos0, p1, take_toIs, drop_toIs, ieq_iff, ieq_iff', ilt_iff, ilt_iff', ile_iff, ile_iff', gt_iff_lt, ge_iff_le, Bool.not_eq_true', Bool.not_eq_false', List.drop_zero, Nat.sub_zero] at hz) <;> first | contradiction | (exfalso; omega) | (exfalso; have hz2 := hz.symm.trans ‹_ = true›; cases hz2; done) | (exfalso; have hz2 := hz.symm.trans ‹_ = false›; cases hz2; done) | cbv))
    all_goals (refine hq _ _ ?_; refine fin1 h ?_; (try simp only [List.length_replicate, Int.zero_tmod, toIs_ii, ii_len, Int.zero_tdiv, w0, hA, nE, shl, shr, std, zE32, zE64, nc, nth_rd', i64w, u32_wrap, p32, p31, p63, w6432, toIs_len, set_toIs, repl_toIs, app_toIs, tos1, tos0, p1, take_toIs, drop_toIs, ieq_iff, ieq_iff', ilt_iff, ilt_iff', ile_iff, ile_iff', gt_iff_lt, ge_iff_le, Bool.not_eq_true', Bool.not_eq_false', List.drop_zero, Nat.sub_zero]); first | done | rfl)
  · exact h.elim
end Go.Proofs.YtjipfimhmfhmhaaDoor.Z
