/- The program's naturals over plain data: trim, kept, of, at. No condition. -/
import Derived.Test.YtjipfimhmfhmhaaDoorV1
namespace Go.Proofs.YtjipfimhmfhmhaaDoor.Z
open Go Go.RowKit Go.Proofs.YtjipfimhmfhmhaaDoor.E Go.Proofs.YtjipfimhmfhmhaaDoor.G Go.Proofs.YtjipfimhmfhmhaaDoor.K Go.Proofs.YtjipfimhmfhmhaaDoor.F
open Go.Proofs.YtjipfimhmfhmhaaDoorW.PrintWords hiding rd
set_option linter.all false

set_option maxRecDepth 100000
set_option maxHeartbeats 4000000
def trimRun (A : Lz) (args : List FV) (q : FV → FV → Prop) : Prop :=
  match args with
  | [.row (.int .u32) a] => ∃ k r, nat_trim.f k (toIs a) = some r ∧ q (.row (.int .u32) (A _ fun _ => ii .u32 r)) .dead
  | _ => False
theorem trim_ok : SpecOk EV 66 ⟨false, trimRun⟩ := by
  refine .shaped 1 (spec_go (.nil _) (fn := Tryd.f66) rfl rfl Tryd.func66 rfl false [] _ ?_)
  rintro A hA args q ⟨hw, h⟩
  unfold trimRun at h
  split at h
  · rename_i a
    obtain ⟨k, r, hf, h⟩ := h
    simp only [std] at h
    have wa := wf_ii (hw _ (.head _))
    refine ⟨Nat.le_of_ble_eq_true rfl, ?_⟩
    unfold nat_trim.f at hf
    refine loop_intro hA [(0, .keep), (3, .keep)] (fun n s => ∃ i, s = st [(0, .row (.int .u32) a), (3, .int .i64 i)] [] ∧ nat_trim.l0 n (toIs a) i = some r) k ?_ ?_
    · cbv
      refine ⟨_, rfl, ?_⟩
      subst hA
      simpa [std, nc] using hf
    · rintro n s ⟨i, rfl, hi⟩
      cases n with
      | zero => cases hi
      | succ n =>
        unfold nat_trim.l0 at hi
        simp only [toIs_len] at hi
        repeat' split at hi
        all_goals try cases hi
        all_goals cbv
        all_goals repeat (first | (refine Exists.intro _ (Exists.intro _ (And.intro (by (try simp only [List.length_replicate, Int.zero_tmod, toIs_ii, ii_len, Int.zero_tdiv, w0, hA, nE, shl, shr, std, zE32, zE64, nc, nth_rd', i64w, u32_wrap, p32, p31, p63, w6432, toIs_len, set_toIs, repl_toIs, app_toIs, tos1, tos0, p1, take_toIs, drop_toIs, ieq_iff, ieq_iff', ilt_iff, ilt_iff', ile_iff, ile_iff', gt_iff_lt, ge_iff_le, Bool.not_eq_true', Bool.not_eq_false', List.drop_zero, Nat.sub_zero]); assumption) ?_)); cbv) | (refine Exists.intro _ (And.intro (by (try simp only [List.length_replicate, Int.zero_tmod, toIs_ii, ii_len, Int.zero_tdiv, w0, hA, nE, shl, shr, std, zE32, zE64, nc, nth_rd', i64w, u32_wrap, p32, p31, p63, w6432, toIs_len, set_toIs, repl_toIs, app_toIs, tos1, tos0, p1, take_toIs, drop_toIs, ieq_iff, ieq_iff', ilt_iff, ilt_iff', ile_iff, ile_iff', gt_iff_lt, ge_iff_le, Bool.not_eq_true', Bool.not_eq_false', List.drop_zero, Nat.sub_zero]); assumption) ?_); cbv) | (refine And.intro (by (try simp only [List.length_replicate, Int.zero_tmod, toIs_ii, ii_len, Int.zero_tdiv, w0, hA, nE, shl, shr, std, zE32, zE64, nc, nth_rd', i64w, u32_wrap, p32, p31, p63, w6432, toIs_len, set_toIs, repl_toIs, app_toIs, tos1, tos0, p1, take_toIs, drop_toIs, ieq_iff, ieq_iff', ilt_iff, ilt_iff', ile_iff, ile_iff', gt_iff_lt, ge_iff_le, Bool.not_eq_true', Bool.not_eq_false', List.drop_zero, Nat.sub_zero]); first | done | exact ix ‹_› ‹_› | exact ix (Int.le_refl 0) ‹_› | decide | exact ap4 ‹_› | exact ap8 ‹_› | exact mk4 ‹_› ‹_› | exact mk8 ‹_› ‹_› | exact ix' ‹_› ‹_› | assumption | omega) ?_; cbv) | (split <;> rename_i hz <;> (try simp only [List.length_replicate, Int.zero_tmod, toIs_ii, ii_len, Int.zero_tdiv, w0, hA, nE, shl, shr, std, zE32, zE64, nc, nth_rd', i64w, u32_wrap, p32, p31, p63, w6432, toIs_len, set_toIs, repl_toIs, app_toIs, tos1, tos0, p1, take_toIs, drop_toIs, ieq_iff, ieq_iff', ilt_iff, ilt_iff', ile_iff, ile_iff', gt_iff_lt, ge_iff_le, Bool.not_eq_true', Bool.not_eq_false', List.drop_zero, Nat.sub_zero] at hz) <;> first | contradiction | (exfalso; omega) | (exfalso; have hz2 := hz.symm.trans ‹_ = true›; cases hz2; done) | (exfalso; have hz2 := hz.symm.trans ‹_ = false›; cases hz2; done) | cbv))
        all_goals first
          | (refine ⟨n, Nat.lt_succ_self n, ?_⟩; cbv; refine ⟨_, rfl, ?_⟩; simpa only [List.length_replicate, Int.zero_tmod, toIs_ii, ii_len, Int.zero_tdiv, w0, hA, nE, shl, shr, std, zE32, zE64, nc, nth_rd', i64w, u32_wrap, p32, p31, p63, w6432, toIs_len, set_toIs, repl_toIs, app_toIs, tos1, tos0, p1, take_toIs, drop_toIs, ieq_iff, ieq_iff', ilt_iff, ilt_iff', ile_iff, ile_iff', gt_iff_lt, ge_iff_le, Bool.not_eq_true', Bool.not_eq_false', List.drop_zero, Nat.sub_zero] using hi)
          | (refine fin_row h ?_; simp only [List.length_replicate, Int.zero_tmod, toIs_ii, ii_len, Int.zero_tdiv, w0, hA, nE, shl, shr, std, zE32, zE64, nc, nth_rd', i64w, u32_wrap, p32, p31, p63, w6432, toIs_len, set_toIs, repl_toIs, app_toIs, tos1, tos0, p1, take_toIs, drop_toIs, ieq_iff, ieq_iff', ilt_iff, ilt_iff', ile_iff, ile_iff', gt_iff_lt, ge_iff_le, Bool.not_eq_true', Bool.not_eq_false', List.drop_zero, Nat.sub_zero]; conv => lhs; rw [wa]
             exact take_ii _ _ _)
  · exact h.elim
end Go.Proofs.YtjipfimhmfhmhaaDoor.Z
