/- KeepFirst and KeepCuts, walked. No condition. -/
import Derived.Test.YtmndbhgbngkakaaDoorKE
namespace Go.Proofs.YtmndbhgbngkakaaDoor.Z
open Go Go.RowKit Go.Proofs.YtmndbhgbngkakaaDoor.E Go.Proofs.YtmndbhgbngkakaaDoor.G Go.Proofs.YtmndbhgbngkakaaDoor.K Go.Proofs.YtmndbhgbngkakaaDoor.F Go.Proofs.YtmndbhgbngkakaaDoor.M Go.Proofs.YtmndbhgbngkakaaDoor.R
open Go.Proofs.YtmndbhgbngkakaaDoorW.PrintWords hiding rd
set_option linter.all false

set_option maxRecDepth 100000
set_option maxHeartbeats 4000000
theorem awake13_ok : SpecOk EV 9 ⟨false, awakeS⟩ :=
  (flat2_spec (B := B) (L := LV) (dom := dTrue) rfl ⟨_, Tryd.func9, rfl⟩).less fun xs q _ h => by
    unfold awakeS at h
    split at h
    · exact ⟨rfl, _, rfl, rfl, h⟩
    · exact h.elim
theorem small_len' {L : List It} (h : smallB L = true) : L.length ≤ 60 := by
  unfold smallB at h
  simp only [Bool.and_eq_true, decide_eq_true_eq] at h
  exact h.1
theorem all_chk {L : List It} (hL : ∀ x ∈ L, x.ok) (h : ∀ j, j < L.length → chkIt (gi L j) = 0) : ∀ x ∈ L, chkIt x = 0 := fun x hx => by
  obtain ⟨i, hi, rfl⟩ := List.mem_iff_getElem.1 hx
  have := h i hi
  rwa [gi_at hi] at this
theorem chks_pos {L : List It} (hL : ∀ x ∈ L, x.ok) (h : ∀ x ∈ L, chkIt x = 0) : ∀ x ∈ L, x.ok ∧ 0 < x.w := fun x hx => by
  refine ⟨hL x hx, ?_⟩
  have h5 := may_chk (hL x hx)
  rw [h x hx] at h5
  unfold mayIt at h5
  simp only [decide_true, Bool.and_eq_true, decide_eq_true_eq] at h5
  exact h5.2
theorem may_all {L : List It} (hL : ∀ x ∈ L, x.ok) (h : L.all mayIt = true) : ∀ x ∈ L, chkIt x = 0 := fun x hx => by
  have := List.all_eq_true.1 h x hx
  rw [may_chk (hL x hx)] at this
  exact of_decide_eq_true this
/-- The keep of all, the document's, and whether it is right. -/
theorem first_law {k : Nat} {L : List It} (hL : ∀ x ∈ L, x.ok) (hc : ∀ x ∈ L, chkIt x = 0) (hk : 1 ≤ k ∧ k ≤ 1024) {N : List It} (h : addsR k [] L N) : (∀ M : List Gi, gs M = bests L L.length → N = gs ((srt cG M).take (k + 1))) ∧ rightB k N = true := by
  obtain ⟨S, rfl⟩ := gs_of (chks_pos hL hc)
  obtain ⟨T, hT, rfl⟩ := all_fs h
  refine ⟨fun M hM => ?_, right_take hk (fun x hx => hc _ (mem_gs.2 ((hT.fst x hx).le cG_pre).1)) hT.srt hT.uq⟩
  rw [gs_len] at hM
  rw [FS.uniq cG_pre kc_it hT (bests_fs hM)]
theorem addsR_len {k : Nat} {L : List It} (hL : ∀ x ∈ L, x.ok) (hc : ∀ x ∈ L, chkIt x = 0) {N : List It} (h : addsR k [] L N) : N.length ≤ k + 1 ∧ ∀ x ∈ N, x.ok := by
  obtain ⟨S, rfl⟩ := gs_of (chks_pos hL hc)
  obtain ⟨T, hT, rfl⟩ := all_fs h
  exact ⟨by rw [gs_len, List.length_take]; omega, gs_ok⟩
def kFirstRun (A : Lz) (args : List FV) (q : FV → FV → Prop) : Prop :=
  match args with
  | [.int .i64 k, .row (.agg [.str, .int .u64, .int .u64]) l] => ∃ L : List It, (l = its L ∧ (∀ x ∈ L, x.ok)) ∧ q (.bool true) .dead
  | _ => False
theorem kFirst_ok : SpecOk EV 3 ⟨false, kFirstRun⟩ := by
  refine spec_go (.cons (f := 8) small_ok (.cons (f := 9) awake13_ok (.cons (f := 10) kAll_ok (.cons (f := 11) check_ok (.cons (f := 13) best_ok (.cons (f := 12) same_ok (.cons (f := 14) kright_ok (.nil _)))))))) (fn := Tryd.f3) rfl rfl Tryd.func3 rfl false [] _ ?_
  intro A hA args q h
  unfold kFirstRun at h
  split at h
  · rename_i k l
    obtain ⟨L, ⟨hl, hL⟩, h⟩ := h
    have hll : l.length = L.length := by rw [hl, its_len]
    refine ⟨Nat.le_of_ble_eq_true rfl, ?_⟩
    cbv
    refine ⟨L, ⟨hl, hL⟩, ?_⟩
    cbv
    split <;> rename_i hz <;> (try simp only [List.length_replicate, Int.zero_tmod, toIs_ii, ii_len, Int.zero_tdiv, w0, hA, nE, shl, shr, std, zE32, zE64, nc, nth_rd', i64w, u32_wrap, p32, p31, p63, w6432, toIs_len, set_toIs, repl_toIs, app_toIs, tos1, tos0, p1, take_toIs, drop_toIs, ieq_iff, ieq_iff', ilt_iff, ilt_iff', ile_iff, ile_iff', gt_iff_lt, ge_iff_le, Bool.not_eq_true', Bool.not_eq_false', List.drop_zero, Nat.sub_zero] at hz) <;> cbv
    · subst hA; exact h
    · have hsm : smallB L = true := by simpa [notF] using hz
      have hl60 := small_len' hsm
      refine ⟨L, ⟨hl, hL, by omega⟩, fun hk => ?_, fun hk i hi hj hc => ?_, fun hk hc M hM => ?_⟩
      · cbv
        split <;> rename_i hz <;> (try simp only [List.length_replicate, Int.zero_tmod, toIs_ii, ii_len, Int.zero_tdiv, w0, hA, nE, shl, shr, std, zE32, zE64, nc, nth_rd', i64w, u32_wrap, p32, p31, p63, w6432, toIs_len, set_toIs, repl_toIs, app_toIs, tos1, tos0, p1, take_toIs, drop_toIs, ieq_iff, ieq_iff', ilt_iff, ilt_iff', ile_iff, ile_iff', gt_iff_lt, ge_iff_le, Bool.not_eq_true', Bool.not_eq_false', List.drop_zero, Nat.sub_zero] at hz) <;> cbv
        · subst hA; exact h
        · split <;> rename_i hz2 <;> (try simp only [List.length_replicate, Int.zero_tmod, toIs_ii, ii_len, Int.zero_tdiv, w0, hA, nE, shl, shr, std, zE32, zE64, nc, nth_rd', i64w, u32_wrap, p32, p31, p63, w6432, toIs_len, set_toIs, repl_toIs, app_toIs, tos1, tos0, p1, take_toIs, drop_toIs, ieq_iff, ieq_iff', ilt_iff, ilt_iff', ile_iff, ile_iff', gt_iff_lt, ge_iff_le, Bool.not_eq_true', Bool.not_eq_false', List.drop_zero, Nat.sub_zero] at hz2) <;> cbv
          · subst hA; exact h
          · exfalso; exact hk ⟨by omega, by omega⟩
      · generalize he : chkIt (gi L i) = e at hc ⊢
        cbv
        split <;> rename_i hz <;> (try simp only [List.length_replicate, Int.zero_tmod, toIs_ii, ii_len, Int.zero_tdiv, w0, hA, nE, shl, shr, std, zE32, zE64, nc, nth_rd', i64w, u32_wrap, p32, p31, p63, w6432, toIs_len, set_toIs, repl_toIs, app_toIs, tos1, tos0, p1, take_toIs, drop_toIs, ieq_iff, ieq_iff', ilt_iff, ilt_iff', ile_iff, ile_iff', gt_iff_lt, ge_iff_le, Bool.not_eq_true', Bool.not_eq_false', List.drop_zero, Nat.sub_zero] at hz) <;> cbv
        · exfalso; omega
        split <;> rename_i hz2 <;> (try simp only [List.length_replicate, Int.zero_tmod, toIs_ii, ii_len, Int.zero_tdiv, w0, hA, nE, shl, shr, std, zE32, zE64, nc, nth_rd', i64w, u32_wrap, p32, p31, p63, w6432, toIs_len, set_toIs, repl_toIs, app_toIs, tos1, tos0, p1, take_toIs, drop_toIs, ieq_iff, ieq_iff', ilt_iff, ilt_iff', ile_iff, ile_iff', gt_iff_lt, ge_iff_le, Bool.not_eq_true', Bool.not_eq_false', List.drop_zero, Nat.sub_zero] at hz2) <;> cbv
        · exfalso; omega
        refine loop_intro hA [(0, .keep), (1, .keep), (5, .keep), (6, .keep), (36, .keep), (37, .keep), (38, .keep)] (fun n s => ∃ w, s = st [(0, .int .i64 k), (1, .row (.agg [.str, .int .u64, .int .u64]) l), (5, .nils), (6, .int .i64 e), (36, .row (.agg [.str, .int .u64, .int .u64]) l), (37, .int .i64 (A _ fun _ => (l.length : Int))), (38, .int .i64 w)] [] ∧
          ∃ j : Nat, w = j ∧ n + j = L.length ∧ j ≤ i) L.length ?_ ?_
        · cbv
          (iterate 1 apply Exists.intro); refine ⟨?_, ?_⟩; cbv
          exact ⟨0, rfl, rfl, Nat.zero_le _⟩
        · rintro n s ⟨w, rfl, j, hw, hn, hji⟩
          have hw0 : 0 ≤ w ∧ w ≤ l.length := by (try simp only [nc] at *); omega
          obtain ⟨a1, a2, a3⟩ := rdit hl (toN hw)
          cbv
          split <;> rename_i hz3 <;> (try simp only [List.length_replicate, Int.zero_tmod, toIs_ii, ii_len, Int.zero_tdiv, w0, hA, nE, shl, shr, std, zE32, zE64, nc, nth_rd', i64w, u32_wrap, p32, p31, p63, w6432, toIs_len, set_toIs, repl_toIs, app_toIs, tos1, tos0, p1, take_toIs, drop_toIs, ieq_iff, ieq_iff', ilt_iff, ilt_iff', ile_iff, ile_iff', gt_iff_lt, ge_iff_le, Bool.not_eq_true', Bool.not_eq_false', List.drop_zero, Nat.sub_zero] at hz3) <;> cbv
          · have hjl : j < L.length := by (try simp only [nc] at *); omega
            have hok : It.ok ⟨((G.nth l w.toNat).cell 0).toS, ((G.nth l w.toNat).cell 1).toI, ((G.nth l w.toNat).cell 2).toI⟩ := by rw [a1, a2, a3]; exact hL _ (gi_mem hjl)
            have hch : chkIt ⟨((G.nth l w.toNat).cell 0).toS, ((G.nth l w.toNat).cell 1).toI, ((G.nth l w.toNat).cell 2).toI⟩ = chkIt (gi L j) := by rw [a1, a2, a3]
            refine ⟨by subst hA; exact ⟨hw0.1, by rw [toN hw, hll]; exact hjl⟩, by rw [au hA]; subst hA; exact hok, ?_⟩
            cbv
            split <;> rename_i hz4 <;> (try simp only [List.length_replicate, Int.zero_tmod, toIs_ii, ii_len, Int.zero_tdiv, w0, hA, nE, shl, shr, std, zE32, zE64, nc, nth_rd', i64w, u32_wrap, p32, p31, p63, w6432, toIs_len, set_toIs, repl_toIs, app_toIs, tos1, tos0, p1, take_toIs, drop_toIs, ieq_iff, ieq_iff', ilt_iff, ilt_iff', ile_iff, ile_iff', gt_iff_lt, ge_iff_le, Bool.not_eq_true', Bool.not_eq_false', List.drop_zero, Nat.sub_zero] at hz4) <;> cbv
            · have hji2 : j = i := Classical.byContradiction fun hne => by
                have := hj j (by omega)
                subst hA
                (try simp only [std] at hz4)
                rw [hch, this] at hz4
                exact hz4 rfl
              (split <;> rename_i hz <;> first | (exfalso; subst hA; revert hz; decide) | cbv)
              split <;> rename_i hz5 <;> (try simp only [List.length_replicate, Int.zero_tmod, toIs_ii, ii_len, Int.zero_tdiv, w0, hA, nE, shl, shr, std, zE32, zE64, nc, nth_rd', i64w, u32_wrap, p32, p31, p63, w6432, toIs_len, set_toIs, repl_toIs, app_toIs, tos1, tos0, p1, take_toIs, drop_toIs, ieq_iff, ieq_iff', ilt_iff, ilt_iff', ile_iff, ile_iff', gt_iff_lt, ge_iff_le, Bool.not_eq_true', Bool.not_eq_false', List.drop_zero, Nat.sub_zero] at hz5) <;> cbv
              · subst hA; exact h
              · exfalso
                subst hA
                (try simp only [std] at hz5)
                rw [hch, hji2, he] at hz5
                exact hz5 rfl
            · have hji2 : j ≠ i := fun e2 => by
                subst hA
                (try simp only [std] at hz4)
                rw [hch, e2, he] at hz4
                exact hc hz4
              refine ⟨n - 1, by omega, ?_⟩
              cbv
              (iterate 1 apply Exists.intro); refine ⟨?_, ?_⟩; cbv
              subst hA
              exact ⟨j + 1, wsucc hw (by omega), by omega, by omega⟩
          · exfalso; (try simp only [nc] at *); omega
      · obtain ⟨kn, hkn, hkt, hk1, hk2⟩ : ∃ n : Nat, k = n ∧ k.toNat = n ∧ n ≤ 1024 ∧ 1 ≤ n := ⟨k.toNat, by omega, rfl, by omega, by omega⟩
        rw [hkt] at hM
        have hca := all_chk hL hc
        obtain ⟨hf, hr⟩ := first_law hL hca ⟨hk2, hk1⟩ hM
        obtain ⟨hMl, hMo⟩ := addsR_len hL hca hM
        generalize hm : its M = m
        cbv
        split <;> rename_i hz <;> (try simp only [List.length_replicate, Int.zero_tmod, toIs_ii, ii_len, Int.zero_tdiv, w0, hA, nE, shl, shr, std, zE32, zE64, nc, nth_rd', i64w, u32_wrap, p32, p31, p63, w6432, toIs_len, set_toIs, repl_toIs, app_toIs, tos1, tos0, p1, take_toIs, drop_toIs, ieq_iff, ieq_iff', ilt_iff, ilt_iff', ile_iff, ile_iff', gt_iff_lt, ge_iff_le, Bool.not_eq_true', Bool.not_eq_false', List.drop_zero, Nat.sub_zero] at hz) <;> cbv
        · exfalso; omega
        split <;> rename_i hz2 <;> (try simp only [List.length_replicate, Int.zero_tmod, toIs_ii, ii_len, Int.zero_tdiv, w0, hA, nE, shl, shr, std, zE32, zE64, nc, nth_rd', i64w, u32_wrap, p32, p31, p63, w6432, toIs_len, set_toIs, repl_toIs, app_toIs, tos1, tos0, p1, take_toIs, drop_toIs, ieq_iff, ieq_iff', ilt_iff, ilt_iff', ile_iff, ile_iff', gt_iff_lt, ge_iff_le, Bool.not_eq_true', Bool.not_eq_false', List.drop_zero, Nat.sub_zero] at hz2) <;> cbv
        · exfalso; omega
        refine loop_intro hA [(0, .keep), (1, .keep), (5, .keep), (6, .keep), (36, .keep), (37, .keep), (38, .keep)] (fun n s => ∃ w, s = st [(0, .int .i64 k), (1, .row (.agg [.str, .int .u64, .int .u64]) l), (5, .row (.agg [.str, .int .u64, .int .u64]) m), (6, .int .i64 0), (36, .row (.agg [.str, .int .u64, .int .u64]) l), (37, .int .i64 (A _ fun _ => (l.length : Int))), (38, .int .i64 w)] [] ∧
          ∃ j : Nat, w = j ∧ n + j = L.length) L.length ?_ ?_
        · cbv
          (iterate 1 apply Exists.intro); refine ⟨?_, ?_⟩; cbv
          exact ⟨0, rfl, rfl⟩
        · rintro n s ⟨w, rfl, j, hw, hn⟩
          have hw0 : 0 ≤ w ∧ w ≤ l.length := by (try simp only [nc] at *); omega
          obtain ⟨a1, a2, a3⟩ := rdit hl (toN hw)
          cbv
          split <;> rename_i hz3 <;> (try simp only [List.length_replicate, Int.zero_tmod, toIs_ii, ii_len, Int.zero_tdiv, w0, hA, nE, shl, shr, std, zE32, zE64, nc, nth_rd', i64w, u32_wrap, p32, p31, p63, w6432, toIs_len, set_toIs, repl_toIs, app_toIs, tos1, tos0, p1, take_toIs, drop_toIs, ieq_iff, ieq_iff', ilt_iff, ilt_iff', ile_iff, ile_iff', gt_iff_lt, ge_iff_le, Bool.not_eq_true', Bool.not_eq_false', List.drop_zero, Nat.sub_zero] at hz3) <;> cbv
          · have hjl : j < L.length := by (try simp only [nc] at *); omega
            have hok : It.ok ⟨((G.nth l w.toNat).cell 0).toS, ((G.nth l w.toNat).cell 1).toI, ((G.nth l w.toNat).cell 2).toI⟩ := by rw [a1, a2, a3]; exact hL _ (gi_mem hjl)
            have hch : chkIt ⟨((G.nth l w.toNat).cell 0).toS, ((G.nth l w.toNat).cell 1).toI, ((G.nth l w.toNat).cell 2).toI⟩ = chkIt (gi L j) := by rw [a1, a2, a3]
            refine ⟨by subst hA; exact ⟨hw0.1, by rw [toN hw, hll]; exact hjl⟩, by rw [au hA]; subst hA; exact hok, ?_⟩
            cbv
            split <;> rename_i hz4 <;> (try simp only [List.length_replicate, Int.zero_tmod, toIs_ii, ii_len, Int.zero_tdiv, w0, hA, nE, shl, shr, std, zE32, zE64, nc, nth_rd', i64w, u32_wrap, p32, p31, p63, w6432, toIs_len, set_toIs, repl_toIs, app_toIs, tos1, tos0, p1, take_toIs, drop_toIs, ieq_iff, ieq_iff', ilt_iff, ilt_iff', ile_iff, ile_iff', gt_iff_lt, ge_iff_le, Bool.not_eq_true', Bool.not_eq_false', List.drop_zero, Nat.sub_zero] at hz4) <;> cbv
            · exfalso
              subst hA
              (try simp only [std] at hz4)
              rw [hch, hc j hjl] at hz4
              exact hz4 rfl
            · refine ⟨n - 1, by omega, ?_⟩
              cbv
              (iterate 1 apply Exists.intro); refine ⟨?_, ?_⟩; cbv
              subst hA
              exact ⟨j + 1, wsucc hw (by omega), by omega⟩
          · have hwk : IntKind.i64.wrap (k + 1) = ((kn + 1 : Nat) : Int) := wsucc hkn (by omega)
            (split <;> rename_i hz <;> first | (exfalso; subst hA; revert hz; decide) | cbv)
            refine ⟨L, kn + 1, ⟨hl, chks_pos hL hca, hl60, by subst hA; exact hwk⟩, fun M' hM' => ?_⟩
            have e := hf M' hM'
            generalize hm2 : its (gs ((srt cG M').take (kn + 1))) = m2
            cbv
            refine ⟨M, gs ((srt cG M').take (kn + 1)), ⟨hm.symm, hm2.symm, by omega⟩, ?_⟩
            cbv
            split <;> rename_i hz4 <;> (try simp only [List.length_replicate, Int.zero_tmod, toIs_ii, ii_len, Int.zero_tdiv, w0, hA, nE, shl, shr, std, zE32, zE64, nc, nth_rd', i64w, u32_wrap, p32, p31, p63, w6432, toIs_len, set_toIs, repl_toIs, app_toIs, tos1, tos0, p1, take_toIs, drop_toIs, ieq_iff, ieq_iff', ilt_iff, ilt_iff', ile_iff, ile_iff', gt_iff_lt, ge_iff_le, Bool.not_eq_true', Bool.not_eq_false', List.drop_zero, Nat.sub_zero] at hz4) <;> cbv
            · refine ⟨M, ⟨hm.symm, hMo, by omega⟩, ?_⟩
              cbv
              split <;> rename_i hz5 <;> (try simp only [List.length_replicate, Int.zero_tmod, toIs_ii, ii_len, Int.zero_tdiv, w0, hA, nE, shl, shr, std, zE32, zE64, nc, nth_rd', i64w, u32_wrap, p32, p31, p63, w6432, toIs_len, set_toIs, repl_toIs, app_toIs, tos1, tos0, p1, take_toIs, drop_toIs, ieq_iff, ieq_iff', ilt_iff, ilt_iff', ile_iff, ile_iff', gt_iff_lt, ge_iff_le, Bool.not_eq_true', Bool.not_eq_false', List.drop_zero, Nat.sub_zero] at hz5) <;> cbv
              · subst hA; exact h
              · exfalso
                subst hA
                (try simp only [std] at hz5)
                rw [hkn, hr] at hz5
                cases hz5
            · exfalso
              subst hA
              (try simp only [std] at hz4)
              rw [← e] at hz4
              simp at hz4
  · exact h.elim
/-- What is cut is the keep of fewer. -/
theorem cuts_law {k c : Nat} {L : List It} (hL : ∀ x ∈ L, x.ok) (hc : ∀ x ∈ L, chkIt x = 0) (h : c ≤ k) {M N : List It} (hM : addsR k [] L M) (hN : addsR c [] L N) : M.take (c + 1) = N := by
  obtain ⟨S, rfl⟩ := gs_of (chks_pos hL hc)
  obtain ⟨T, hT, rfl⟩ := all_fs hM
  obtain ⟨U, hU, rfl⟩ := all_fs hN
  rw [FS.uniq cG_pre kc_it hT hU, ← gs_take, List.take_take, Nat.min_eq_left (by omega)]
def kCutsRun (A : Lz) (args : List FV) (q : FV → FV → Prop) : Prop :=
  match args with
  | [.int .i64 k, .int .i64 c, .row (.agg [.str, .int .u64, .int .u64]) l] => ∃ L : List It, (l = its L ∧ (∀ x ∈ L, x.ok)) ∧ q (.bool true) .dead
  | _ => False
theorem kCuts_ok : SpecOk EV 4 ⟨false, kCutsRun⟩ := by
  refine spec_go (.cons (f := 8) small_ok (.cons (f := 9) awake13_ok (.cons (f := 15) all_ok (.cons (f := 10) kAll_ok (.cons (f := 16) kCut_ok (.cons (f := 12) same_ok (.nil _))))))) (fn := Tryd.f4) rfl rfl Tryd.func4 rfl false [] _ ?_
  intro A hA args q h
  unfold kCutsRun at h
  split at h
  · rename_i k c l
    obtain ⟨L, ⟨hl, hL⟩, h⟩ := h
    refine ⟨Nat.le_of_ble_eq_true rfl, ?_⟩
    cbv
    refine ⟨L, ⟨hl, hL⟩, ?_⟩
    cbv
    split <;> rename_i hz <;> (try simp only [List.length_replicate, Int.zero_tmod, toIs_ii, ii_len, Int.zero_tdiv, w0, hA, nE, shl, shr, std, zE32, zE64, nc, nth_rd', i64w, u32_wrap, p32, p31, p63, w6432, toIs_len, set_toIs, repl_toIs, app_toIs, tos1, tos0, p1, take_toIs, drop_toIs, ieq_iff, ieq_iff', ilt_iff, ilt_iff', ile_iff, ile_iff', gt_iff_lt, ge_iff_le, Bool.not_eq_true', Bool.not_eq_false', List.drop_zero, Nat.sub_zero] at hz) <;> cbv
    · subst hA; exact h
    have hsm : smallB L = true := by simpa [notF] using hz
    have hl60 := small_len' hsm
    refine ⟨L, ⟨hl, hL, by omega⟩, ?_⟩
    cbv
    split <;> rename_i hz <;> (try simp only [List.length_replicate, Int.zero_tmod, toIs_ii, ii_len, Int.zero_tdiv, w0, hA, nE, shl, shr, std, zE32, zE64, nc, nth_rd', i64w, u32_wrap, p32, p31, p63, w6432, toIs_len, set_toIs, repl_toIs, app_toIs, tos1, tos0, p1, take_toIs, drop_toIs, ieq_iff, ieq_iff', ilt_iff, ilt_iff', ile_iff, ile_iff', gt_iff_lt, ge_iff_le, Bool.not_eq_true', Bool.not_eq_false', List.drop_zero, Nat.sub_zero] at hz) <;> cbv
    · subst hA; exact h
    have hca : ∀ x ∈ L, chkIt x = 0 := may_all hL (by simpa [notF] using hz)
    have hcb : ∀ i, i < L.length → chkIt (gi L i) = 0 := fun i hi => hca _ (gi_mem hi)
    iterate 4
      split <;> rename_i hz <;> (try simp only [List.length_replicate, Int.zero_tmod, toIs_ii, ii_len, Int.zero_tdiv, w0, hA, nE, shl, shr, std, zE32, zE64, nc, nth_rd', i64w, u32_wrap, p32, p31, p63, w6432, toIs_len, set_toIs, repl_toIs, app_toIs, tos1, tos0, p1, take_toIs, drop_toIs, ieq_iff, ieq_iff', ilt_iff, ilt_iff', ile_iff, ile_iff', gt_iff_lt, ge_iff_le, Bool.not_eq_true', Bool.not_eq_false', List.drop_zero, Nat.sub_zero] at hz) <;> cbv
      · subst hA; exact h
    rename_i g1 _ g2 _ g3 _ g4
    obtain ⟨kn, hkn, hkt, hk1, hk2⟩ : ∃ n : Nat, k = n ∧ k.toNat = n ∧ n ≤ 1024 ∧ 1 ≤ n := ⟨k.toNat, by omega, rfl, by omega, by omega⟩
    obtain ⟨cn, hcn, hct, hc1⟩ : ∃ n : Nat, c = n ∧ c.toNat = n ∧ n ≤ kn := ⟨c.toNat, by omega, rfl, by omega⟩
    refine ⟨L, ⟨hl, hL, by omega⟩, fun hk => absurd ⟨by omega, by omega⟩ hk, fun hk i hi hj hc => absurd (hcb i hi) hc, fun hk _ M hM => ?_⟩
    rw [hkt] at hM
    obtain ⟨hf, hr⟩ := first_law hL hca ⟨hk2, hk1⟩ hM
    obtain ⟨hMl, hMo⟩ := addsR_len hL hca hM
    generalize hm : its M = m
    cbv
    refine ⟨M, ⟨hm.symm, hMo, by omega⟩, fun hn => absurd ⟨by rw [hkn]; exact hr, by omega, by omega⟩ hn, fun _ _ _ => ?_⟩
    rw [hct]
    generalize hm2 : its (M.take (cn + 1)) = m2
    cbv
    refine ⟨L, ⟨hl, hL, by omega⟩, fun hk => absurd ⟨by omega, by omega⟩ hk, fun hk i hi hj hc => absurd (hcb i hi) hc, fun hk _ N hN => ?_⟩
    rw [hct] at hN
    have e := cuts_law hL hca hc1 hM hN
    generalize hm3 : its N = m3
    cbv
    (split <;> rename_i hz <;> first | (exfalso; subst hA; revert hz; decide) | cbv)
    (split <;> rename_i hz <;> first | (exfalso; subst hA; revert hz; decide) | cbv)
    refine ⟨M.take (cn + 1), N, ⟨hm2.symm, hm3.symm, by rw [List.length_take]; omega⟩, ?_⟩
    cbv
    split <;> rename_i hz4 <;> (try simp only [List.length_replicate, Int.zero_tmod, toIs_ii, ii_len, Int.zero_tdiv, w0, hA, nE, shl, shr, std, zE32, zE64, nc, nth_rd', i64w, u32_wrap, p32, p31, p63, w6432, toIs_len, set_toIs, repl_toIs, app_toIs, tos1, tos0, p1, take_toIs, drop_toIs, ieq_iff, ieq_iff', ilt_iff, ilt_iff', ile_iff, ile_iff', gt_iff_lt, ge_iff_le, Bool.not_eq_true', Bool.not_eq_false', List.drop_zero, Nat.sub_zero] at hz4) <;> cbv
    · subst hA; exact h
    · exfalso
      subst hA
      (try simp only [std] at hz4)
      rw [e] at hz4
      simp at hz4
  · exact h.elim
end Go.Proofs.YtmndbhgbngkakaaDoor.Z
