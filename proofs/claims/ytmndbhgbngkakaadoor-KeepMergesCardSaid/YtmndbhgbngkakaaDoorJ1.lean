/- Rows of items over plain data: few and short ones; all of them; equal ones. No condition. -/
import Derived.Test.YtmndbhgbngkakaaDoorU5
import Derived.Test.YtmndbhgbngkakaaDoorKX
namespace Go.Proofs.YtmndbhgbngkakaaDoor.Z
open Go Go.RowKit Go.Proofs.YtmndbhgbngkakaaDoor.E Go.Proofs.YtmndbhgbngkakaaDoor.G Go.Proofs.YtmndbhgbngkakaaDoor.K Go.Proofs.YtmndbhgbngkakaaDoor.F Go.Proofs.YtmndbhgbngkakaaDoor.M Go.Proofs.YtmndbhgbngkakaaDoor.R
open Go.Proofs.YtmndbhgbngkakaaDoorW.PrintWords hiding rd
set_option linter.all false

set_option maxRecDepth 100000
set_option maxHeartbeats 4000000
def smallB (L : List It) : Bool := decide (L.length ≤ 60) && L.all fun x => decide ((x.key.size : Int) ≤ 100)
def rowIt (g : Lz → List It → FV) (A : Lz) (args : List FV) (q : FV → FV → Prop) : Prop :=
  match args with
  | [.row (.agg [.str, .int .u64, .int .u64]) l] => ∃ L : List It, (l = its L ∧ (∀ x ∈ L, x.ok) ∧ L.length < 9223372036854775807) ∧ q (g A L) .dead
  | _ => False
def rowIt0 (g : Lz → List It → FV) (A : Lz) (args : List FV) (q : FV → FV → Prop) : Prop :=
  match args with
  | [.row (.agg [.str, .int .u64, .int .u64]) l] => ∃ L : List It, (l = its L ∧ (∀ x ∈ L, x.ok)) ∧ q (g A L) .dead
  | _ => False
theorem small_ok : SpecOk EV 8 ⟨false, rowIt0 fun A L => .bool (A _ fun _ => smallB L)⟩ := by
  refine spec_go (.nil _) (fn := Tryd.f8) rfl rfl Tryd.func8 rfl false [] _ ?_
  intro A hA args q h
  unfold rowIt0 at h
  split at h
  · rename_i l
    obtain ⟨L, ⟨hl, hL⟩, h⟩ := h
    have hll : l.length = L.length := by rw [hl, its_len]
    refine ⟨Nat.le_of_ble_eq_true rfl, ?_⟩
    cbv
    repeat' (first | (refine And.intro (by (try simp only [List.length_replicate, Int.zero_tmod, toIs_ii, ii_len, Int.zero_tdiv, w0, hA, nE, shl, shr, std, zE32, zE64, nc, nth_rd', i64w, u32_wrap, p32, p31, p63, w6432, toIs_len, set_toIs, repl_toIs, app_toIs, tos1, tos0, p1, take_toIs, drop_toIs, ieq_iff, ieq_iff', ilt_iff, ilt_iff', ile_iff, ile_iff', gt_iff_lt, ge_iff_le, Bool.not_eq_true', Bool.not_eq_false', List.drop_zero, Nat.sub_zero]); first | done | exact ix ‹_› ‹_› | exact ix (Int.le_refl 0) ‹_› | decide | exact ap4 ‹_› | exact ap8 ‹_› | exact mk4 ‹_› ‹_› | exact mk8 ‹_› ‹_› | exact ix' ‹_› ‹_› | assumption | omega) ?_; cbv) | (split <;> rename_i hz <;> (try simp only [List.length_replicate, Int.zero_tmod, toIs_ii, ii_len, Int.zero_tdiv, w0, hA, nE, shl, shr, std, zE32, zE64, nc, nth_rd', i64w, u32_wrap, p32, p31, p63, w6432, toIs_len, set_toIs, repl_toIs, app_toIs, tos1, tos0, p1, take_toIs, drop_toIs, ieq_iff, ieq_iff', ilt_iff, ilt_iff', ile_iff, ile_iff', gt_iff_lt, ge_iff_le, Bool.not_eq_true', Bool.not_eq_false', List.drop_zero, Nat.sub_zero] at hz) <;> first | contradiction | (exfalso; omega) | (exfalso; have hz2 := hz.symm.trans ‹_ = true›; cases hz2; done) | (exfalso; have hz2 := hz.symm.trans ‹_ = false›; cases hz2; done) | cbv))
    · subst hA
      refine fin_bool h ?_
      have : ¬ L.length ≤ 60 := by simp only [nc] at *; omega
      simp [smallB, this, std]
    · refine loop_intro hA [(0, .keep), (3, .keep)] (fun n s => ∃ w, s = st [(0, .row (.agg [.str, .int .u64, .int .u64]) l), (3, .int .i64 w)] [] ∧
        ∃ k : Nat, w = k ∧ n + k = L.length ∧ ∀ i, i < k → decide (((gi L i).key.size : Int) ≤ 100) = true) L.length ?_ ?_
      · cbv
        (iterate 1 apply Exists.intro); refine ⟨?_, ?_⟩; cbv
        exact ⟨0, rfl, rfl, fun i hi => by omega⟩
      · rintro n s ⟨w, rfl, k, hw, hn, hk⟩
        have hw0 : 0 ≤ w ∧ w ≤ l.length := by simp only [nc] at *; omega
        have hw1 : w.toNat = k := by rw [hw]; rfl
        cbv
        repeat' (first | (refine And.intro (by (try simp only [List.length_replicate, Int.zero_tmod, toIs_ii, ii_len, Int.zero_tdiv, w0, hA, nE, shl, shr, std, zE32, zE64, nc, nth_rd', i64w, u32_wrap, p32, p31, p63, w6432, toIs_len, set_toIs, repl_toIs, app_toIs, tos1, tos0, p1, take_toIs, drop_toIs, ieq_iff, ieq_iff', ilt_iff, ilt_iff', ile_iff, ile_iff', gt_iff_lt, ge_iff_le, Bool.not_eq_true', Bool.not_eq_false', List.drop_zero, Nat.sub_zero]); first | done | exact ix ‹_› ‹_› | exact ix (Int.le_refl 0) ‹_› | decide | exact ap4 ‹_› | exact ap8 ‹_› | exact mk4 ‹_› ‹_› | exact mk8 ‹_› ‹_› | exact ix' ‹_› ‹_› | assumption | omega) ?_; cbv) | (split <;> rename_i hz <;> (try simp only [List.length_replicate, Int.zero_tmod, toIs_ii, ii_len, Int.zero_tdiv, w0, hA, nE, shl, shr, std, zE32, zE64, nc, nth_rd', i64w, u32_wrap, p32, p31, p63, w6432, toIs_len, set_toIs, repl_toIs, app_toIs, tos1, tos0, p1, take_toIs, drop_toIs, ieq_iff, ieq_iff', ilt_iff, ilt_iff', ile_iff, ile_iff', gt_iff_lt, ge_iff_le, Bool.not_eq_true', Bool.not_eq_false', List.drop_zero, Nat.sub_zero] at hz) <;> first | contradiction | (exfalso; omega) | (exfalso; have hz2 := hz.symm.trans ‹_ = true›; cases hz2; done) | (exfalso; have hz2 := hz.symm.trans ‹_ = false›; cases hz2; done) | cbv))
        · refine ⟨(by subst hA; (try simp only [std, nc] at *); omega), ?_⟩
          subst hA
          refine fin_bool h ?_
          have hk1 : k < L.length := by simp only [nc] at *; omega
          rw [hw1, hl, its_key] at hz
          have := not_all (p := fun x => decide ((x.key.size : Int) ≤ 100)) hk1 (decide_eq_false (by simp only [nc] at *; omega))
          simp only [std, smallB, this, Bool.and_false]
        · refine ⟨(by subst hA; (try simp only [std, nc] at *); omega), n - 1, by simp only [nc] at *; omega, ?_⟩
          rw [hw1, hl, its_key] at hz
          cbv
          (iterate 1 apply Exists.intro); refine ⟨?_, ?_⟩; cbv
          subst hA
          have hk1 : k < L.length := by simp only [nc] at *; omega
          refine ⟨k + 1, wsucc hw (by omega), by omega, fun i hi => ?_⟩
          · by_cases e : i = k
            · subst e; exact decide_eq_true (by simp only [nc] at *; omega)
            · exact hk i (by omega)
        · subst hA
          refine fin_bool h ?_
          have hk1 : k = L.length := by simp only [nc] at *; omega
          have h1 : L.length ≤ 60 := by simp only [nc] at *; omega
          have := all_gi (p := fun x => decide ((x.key.size : Int) ≤ 100)) (fun i hi => hk i (by omega))
          simp only [std, smallB, this, h1, decide_true, Bool.and_true]
  · exact h.elim
theorem all_ok : SpecOk EV 15 ⟨false, rowIt fun A L => .bool (A _ fun _ => L.all mayIt)⟩ := by
  refine spec_go (.cons (f := 30) may_ok (.nil _)) (fn := Tryd.f15) rfl rfl Tryd.func15 rfl false [] _ ?_
  intro A hA args q h
  unfold rowIt at h
  split at h
  · rename_i l
    obtain ⟨L, ⟨hl, hL, hb⟩, h⟩ := h
    have hll : l.length = L.length := by rw [hl, its_len]
    refine ⟨Nat.le_of_ble_eq_true rfl, ?_⟩
    cbv
    refine loop_intro hA [(0, .keep), (3, .keep)] (fun n s => ∃ w, s = st [(0, .row (.agg [.str, .int .u64, .int .u64]) l), (3, .int .i64 w)] [] ∧
        ∃ k : Nat, w = k ∧ n + k = L.length ∧ ∀ i, i < k → mayIt (gi L i) = true) L.length ?_ ?_
    · cbv
      (iterate 1 apply Exists.intro); refine ⟨?_, ?_⟩; cbv
      exact ⟨0, rfl, rfl, fun i hi => by omega⟩
    · rintro n s ⟨w, rfl, k, hw, hn, hk⟩
      have hw0 : 0 ≤ w ∧ w ≤ l.length := by simp only [nc] at *; omega
      have hw1 : w.toNat = k := by rw [hw]; rfl
      have e1 := its_key L k
      have e2 := its_u L k
      have e3 := its_w L k
      rw [← hl, ← hw1] at e1 e2 e3
      have ok : k < L.length → It.ok ⟨((G.nth l w.toNat).cell 0).toS, ((G.nth l w.toNat).cell 1).toI, ((G.nth l w.toNat).cell 2).toI⟩ := fun hk => by
        rw [e1, e2, e3, hw1]; exact hL _ (gi_mem hk)
      cbv
      split <;> rename_i hz <;> (try simp only [List.length_replicate, Int.zero_tmod, toIs_ii, ii_len, Int.zero_tdiv, w0, hA, nE, shl, shr, std, zE32, zE64, nc, nth_rd', i64w, u32_wrap, p32, p31, p63, w6432, toIs_len, set_toIs, repl_toIs, app_toIs, tos1, tos0, p1, take_toIs, drop_toIs, ieq_iff, ieq_iff', ilt_iff, ilt_iff', ile_iff, ile_iff', gt_iff_lt, ge_iff_le, Bool.not_eq_true', Bool.not_eq_false', List.drop_zero, Nat.sub_zero] at hz) <;> cbv
      · have hk1 : k < L.length := by simp only [nc] at *; omega
        refine ⟨(by subst hA; (try simp only [std, nc] at *); omega), (au hA _).symm ▸ by subst hA; exact ok hk1, ?_⟩
        cbv
        split <;> rename_i hz <;> (try simp only [List.length_replicate, Int.zero_tmod, toIs_ii, ii_len, Int.zero_tdiv, w0, hA, nE, shl, shr, std, zE32, zE64, nc, nth_rd', i64w, u32_wrap, p32, p31, p63, w6432, toIs_len, set_toIs, repl_toIs, app_toIs, tos1, tos0, p1, take_toIs, drop_toIs, ieq_iff, ieq_iff', ilt_iff, ilt_iff', ile_iff, ile_iff', gt_iff_lt, ge_iff_le, Bool.not_eq_true', Bool.not_eq_false', List.drop_zero, Nat.sub_zero] at hz) <;> cbv
        all_goals rw [e1, e2, e3, hw1, it_eta] at hz
        · subst hA
          refine fin_bool h ?_
          have := not_all (p := mayIt) hk1 hz
          simp only [std, this]
        · refine ⟨n - 1, by simp only [nc] at *; omega, ?_⟩
          cbv
          (iterate 1 apply Exists.intro); refine ⟨?_, ?_⟩; cbv
          subst hA
          refine ⟨k + 1, wsucc hw (by omega), by omega, fun i hi => ?_⟩
          by_cases e : i = k
          · subst e; exact hz
          · exact hk i (by omega)
      · subst hA
        refine fin_bool h ?_
        have hk1 : k = L.length := by simp only [nc] at *; omega
        have := all_gi (p := mayIt) (fun i hi => hk i (by omega))
        simp only [std, this]
  · exact h.elim
def sameRun (A : Lz) (args : List FV) (q : FV → FV → Prop) : Prop :=
  match args with
  | [.row (.agg [.str, .int .u64, .int .u64]) l, .row (.agg [.str, .int .u64, .int .u64]) m] => ∃ L M : List It, (l = its L ∧ m = its M ∧ L.length < 9223372036854775807) ∧ q (.bool (A _ fun _ => decide (L = M))) .dead
  | _ => False
theorem same_ok : SpecOk EV 12 ⟨false, sameRun⟩ := by
  refine spec_go (.nil _) (fn := Tryd.f12) rfl rfl Tryd.func12 rfl false [] _ ?_
  intro A hA args q h
  unfold sameRun at h
  split at h
  · rename_i l m
    obtain ⟨L, M, ⟨hl, hm, hb⟩, h⟩ := h
    have hll : l.length = L.length := by rw [hl, its_len]
    have hml : m.length = M.length := by rw [hm, its_len]
    refine ⟨Nat.le_of_ble_eq_true rfl, ?_⟩
    cbv
    split <;> rename_i hz <;> (try simp only [List.length_replicate, Int.zero_tmod, toIs_ii, ii_len, Int.zero_tdiv, w0, hA, nE, shl, shr, std, zE32, zE64, nc, nth_rd', i64w, u32_wrap, p32, p31, p63, w6432, toIs_len, set_toIs, repl_toIs, app_toIs, tos1, tos0, p1, take_toIs, drop_toIs, ieq_iff, ieq_iff', ilt_iff, ilt_iff', ile_iff, ile_iff', gt_iff_lt, ge_iff_le, Bool.not_eq_true', Bool.not_eq_false', List.drop_zero, Nat.sub_zero] at hz) <;> cbv
    · subst hA
      refine fin_bool h ?_
      exact (decide_eq_false fun e => by subst e; simp only [nc] at *; omega).symm
    · have hLM : L.length = M.length := by simp only [nc] at *; omega
      refine loop_intro hA [(0, .keep), (1, .keep), (5, .keep)] (fun n s => ∃ w, s = st [(0, .row (.agg [.str, .int .u64, .int .u64]) l), (1, .row (.agg [.str, .int .u64, .int .u64]) m), (5, .int .i64 w)] [] ∧
        ∃ k : Nat, w = k ∧ n + k = L.length ∧ ∀ i, i < k → gi L i = gi M i) L.length ?_ ?_
      · cbv
        (iterate 1 apply Exists.intro); refine ⟨?_, ?_⟩; cbv
        exact ⟨0, rfl, rfl, fun i hi => by omega⟩
      · rintro n s ⟨w, rfl, k, hw, hn, hk⟩
        have hw0 : 0 ≤ w ∧ w ≤ l.length := by simp only [nc] at *; omega
        have hw1 : w.toNat = k := by rw [hw]; rfl
        have e1 := its_key L k
        have e2 := its_u L k
        have e3 := its_w L k
        rw [← hl, ← hw1] at e1 e2 e3
        have f1 := its_key M k
        have f2 := its_u M k
        have f3 := its_w M k
        rw [← hm, ← hw1] at f1 f2 f3
        cbv
        split <;> rename_i hz <;> (try simp only [List.length_replicate, Int.zero_tmod, toIs_ii, ii_len, Int.zero_tdiv, w0, hA, nE, shl, shr, std, zE32, zE64, nc, nth_rd', i64w, u32_wrap, p32, p31, p63, w6432, toIs_len, set_toIs, repl_toIs, app_toIs, tos1, tos0, p1, take_toIs, drop_toIs, ieq_iff, ieq_iff', ilt_iff, ilt_iff', ile_iff, ile_iff', gt_iff_lt, ge_iff_le, Bool.not_eq_true', Bool.not_eq_false', List.drop_zero, Nat.sub_zero] at hz) <;> cbv
        · have hk1 : k < L.length := by simp only [nc] at *; omega
          refine ⟨(by subst hA; (try simp only [std, nc] at *); omega), (by subst hA; (try simp only [std, nc] at *); omega), ?_⟩
          split <;> rename_i hz <;> (try simp only [List.length_replicate, Int.zero_tmod, toIs_ii, ii_len, Int.zero_tdiv, w0, hA, nE, shl, shr, std, zE32, zE64, nc, nth_rd', i64w, u32_wrap, p32, p31, p63, w6432, toIs_len, set_toIs, repl_toIs, app_toIs, tos1, tos0, p1, take_toIs, drop_toIs, ieq_iff, ieq_iff', ilt_iff, ilt_iff', ile_iff, ile_iff', gt_iff_lt, ge_iff_le, Bool.not_eq_true', Bool.not_eq_false', List.drop_zero, Nat.sub_zero] at hz) <;> cbv
          all_goals rw [e1, e2, e3, f1, f2, f3, hw1, eqL_it] at hz
          · subst hA
            refine fin_bool h ?_
            exact (decide_eq_false fun e => by rw [e] at hz; simp at hz).symm
          · refine ⟨n - 1, by simp only [nc] at *; omega, ?_⟩
            cbv
            (iterate 1 apply Exists.intro); refine ⟨?_, ?_⟩; cbv
            subst hA
            refine ⟨k + 1, wsucc hw (by omega), by omega, fun i hi => ?_⟩
            by_cases e : i = k
            · subst e; simpa using hz
            · exact hk i (by omega)
        · subst hA
          refine fin_bool h ?_
          have hk1 : k = L.length := by simp only [nc] at *; omega
          exact (decide_eq_true (gi_ext hLM fun i hi => hk i (by omega))).symm
  · exact h.elim
end Go.Proofs.YtmndbhgbngkakaaDoor.Z
