/- Several texts of one claim in one file: YtmndbhgbngkakaaDoorJX, YtmndbhgbngkakaaDoorJY, YtmndbhgbngkakaaDoorJZ, YtmndbhgbngkakaaDoorKA. No condition. -/
import Derived.Test.YtmndbhgbngkakaaDoorJW
import Derived.Test.YtmndbhgbngkakaaDoorJT
section
/- keep.fits, Add, Cut, Sample over plain data. No condition. -/
namespace Go.Proofs.YtmndbhgbngkakaaDoor.Z
open Go Go.RowKit Go.Proofs.YtmndbhgbngkakaaDoor.E Go.Proofs.YtmndbhgbngkakaaDoor.G Go.Proofs.YtmndbhgbngkakaaDoor.K Go.Proofs.YtmndbhgbngkakaaDoor.F Go.Proofs.YtmndbhgbngkakaaDoor.M Go.Proofs.YtmndbhgbngkakaaDoor.R
open Go.Proofs.YtmndbhgbngkakaaDoorW.PrintWords hiding rd
set_option linter.all false

set_option maxRecDepth 100000
set_option maxHeartbeats 4000000
def fitsS (A : Lz) (args : List FV) (q : FV → FV → Prop) : Prop :=
  match args with
  | [.int .i64 k] => q (.bool (A _ fun _ => decide (1 ≤ k ∧ k ≤ 1024))) .dead
  | _ => False
theorem kfits_ok : SpecOk EV 26 ⟨false, fitsS⟩ := by
  refine spec_go (.nil _) (fn := Tryd.f26) rfl rfl Tryd.func26 rfl false [] _ ?_
  intro A hA args q h
  unfold fitsS at h
  split at h
  · refine ⟨Nat.le_of_ble_eq_true rfl, ?_⟩
    cbv
    repeat' (first | (refine And.intro (by (try simp only [List.length_replicate, Int.zero_tmod, toIs_ii, ii_len, Int.zero_tdiv, w0, hA, nE, shl, shr, std, zE32, zE64, nc, nth_rd', i64w, u32_wrap, p32, p31, p63, w6432, toIs_len, set_toIs, repl_toIs, app_toIs, tos1, tos0, p1, take_toIs, drop_toIs, ieq_iff, ieq_iff', ilt_iff, ilt_iff', ile_iff, ile_iff', gt_iff_lt, ge_iff_le, Bool.not_eq_true', Bool.not_eq_false', List.drop_zero, Nat.sub_zero]); first | done | exact ix ‹_› ‹_› | exact ix (Int.le_refl 0) ‹_› | decide | exact ap4 ‹_› | exact ap8 ‹_› | exact mk4 ‹_› ‹_› | exact mk8 ‹_› ‹_› | exact ix' ‹_› ‹_› | assumption | omega) ?_; cbv) | (split <;> rename_i hz <;> (try simp only [List.length_replicate, Int.zero_tmod, toIs_ii, ii_len, Int.zero_tdiv, w0, hA, nE, shl, shr, std, zE32, zE64, nc, nth_rd', i64w, u32_wrap, p32, p31, p63, w6432, toIs_len, set_toIs, repl_toIs, app_toIs, tos1, tos0, p1, take_toIs, drop_toIs, ieq_iff, ieq_iff', ilt_iff, ilt_iff', ile_iff, ile_iff', gt_iff_lt, ge_iff_le, Bool.not_eq_true', Bool.not_eq_false', List.drop_zero, Nat.sub_zero] at hz) <;> first | contradiction | (exfalso; omega) | (exfalso; have hz2 := hz.symm.trans ‹_ = true›; cases hz2; done) | (exfalso; have hz2 := hz.symm.trans ‹_ = false›; cases hz2; done) | cbv))
    all_goals
      subst hA
      refine fin_bool h ?_
      simp [std, hz, ile]
  · exact h.elim
theorem right_facts {k : Int} {L : List It} (h : rightB k L = true) : (1 ≤ k ∧ k ≤ 1024) ∧ (L.length : Int) ≤ k + 1 ∧ ∀ j, j < L.length → rightP L j := of_decide_eq_true h
theorem right_nat {k : Int} {L : List It} (h : rightB k L = true) : ∃ n : Nat, k = n ∧ k.toNat = n ∧ n ≤ 1024 ∧ 1 ≤ n ∧ L.length ≤ n + 1 := by
  obtain ⟨⟨h1, h2⟩, h3, _⟩ := right_facts h
  exact ⟨k.toNat, by omega, rfl, by omega, by omega, by omega⟩
def kAddRun (A : Lz) (args : List FV) (q : FV → FV → Prop) : Prop :=
  match args with
  | [.int .i64 k, .row (.agg [.str, .int .u64, .int .u64]) l, .agg [.str kk, .int .u64 u, .int .u64 w]] =>
    ∃ L : List It, (l = its L ∧ (∀ x ∈ L, x.ok) ∧ It.ok ⟨kk, u, w⟩ ∧ L.length < 4611686018427387904) ∧
      (rightB k L = false → q (.tup [.row (.agg [.str, .int .u64, .int .u64]) (its L), .int .i64 1]) .dead) ∧
      (rightB k L = true → chkIt ⟨kk, u, w⟩ ≠ 0 → q (.tup [.row (.agg [.str, .int .u64, .int .u64]) (its L), .int .i64 (chkIt ⟨kk, u, w⟩)]) .dead) ∧
      (rightB k L = true → chkIt ⟨kk, u, w⟩ = 0 → ∀ M, addR k.toNat L ⟨kk, u, w⟩ M → q (.tup [.row (.agg [.str, .int .u64, .int .u64]) (its M), .int .i64 0]) .dead)
  | _ => False
theorem kAdd_ok : SpecOk EV 17 ⟨false, kAddRun⟩ := by
  refine spec_go (.cons (f := 14) kright_ok (.cons (f := 11) check_ok (.cons (f := 27) add_ok (.nil _)))) (fn := Tryd.f17) rfl rfl Tryd.func17 rfl false [] _ ?_
  intro A hA args q h
  unfold kAddRun at h
  split at h
  · rename_i k l kk u w
    obtain ⟨L, ⟨hl, hL, hx, hb⟩, h1, h2, h3⟩ := h
    refine ⟨Nat.le_of_ble_eq_true rfl, ?_⟩
    cbv
    refine ⟨L, ⟨hl, hL, hb⟩, ?_⟩
    cbv
    split <;> rename_i hz <;> cbv
    · subst hA
      have hz : (!(rightB k L)) = true := hz
      have := h1 (by simpa using hz)
      rw [← hl] at this
      exact this
    · have hr : rightB k L = true := by subst hA; have hz : (!(rightB k L)) = false := hz; simpa using hz
      obtain ⟨kn, hkn, hkt, hk1, hk2, hlen⟩ := right_nat hr
      refine ⟨by rw [au hA]; exact hx, ?_⟩
      cbv
      split <;> rename_i hz2 <;> cbv
      · subst hA
        have hz2 : (!ieq (chkIt ⟨kk, u, w⟩) 0) = true := hz2
        have := h2 hr (by simpa [ieq] using hz2)
        rw [← hl] at this
        exact this
      · refine ⟨kn, L, ⟨hkn, hk1, hl, hL, hx, Nat.le_trans hlen (by omega)⟩, fun M hM => ?_⟩
        cbv
        subst hA
        have hz2 : (!ieq (chkIt ⟨kk, u, w⟩) 0) = false := hz2
        have := h3 hr (by simpa [ieq] using hz2) M (by rw [hkt]; exact hM)
        cases M <;> exact this
  · exact h.elim
end Go.Proofs.YtmndbhgbngkakaaDoor.Z
end
section
/- keep.Merge over plain data. No condition. -/
namespace Go.Proofs.YtmndbhgbngkakaaDoor.Z
open Go Go.RowKit Go.Proofs.YtmndbhgbngkakaaDoor.E Go.Proofs.YtmndbhgbngkakaaDoor.G Go.Proofs.YtmndbhgbngkakaaDoor.K Go.Proofs.YtmndbhgbngkakaaDoor.F Go.Proofs.YtmndbhgbngkakaaDoor.M Go.Proofs.YtmndbhgbngkakaaDoor.R
open Go.Proofs.YtmndbhgbngkakaaDoorW.PrintWords hiding rd
set_option linter.all false

set_option maxRecDepth 100000
set_option maxHeartbeats 4000000
/-- One after the other is added. -/
def addsR (k : Nat) (L : List It) : List It → List It → Prop
  | [], M => M = L
  | x :: xs, M => ∃ N, addR k L x N ∧ addsR k N xs M
theorem addsR_snoc {k : Nat} {x : It} : ∀ {xs L M N : List It}, addsR k L xs M → addR k M x N → addsR k L (xs ++ [x]) N
  | [], L, M, N, h, h' => by cases h; exact ⟨N, h', rfl⟩
  | y :: ys, L, M, N, ⟨P, h1, h2⟩, h' => ⟨P, h1, addsR_snoc h2 h'⟩
theorem addR_ok {k : Nat} {L M : List It} {x : It} (h : addR k L x M) (hL : ∀ x ∈ L, x.ok) (hx : x.ok) : (∀ x ∈ M, x.ok) ∧ (M.length ≤ k + 1 ∨ M.length ≤ L.length) := by
  have put : ∀ S : List It, (∀ x ∈ S, x.ok) → putR k S x M → (∀ x ∈ M, x.ok) ∧ (M.length ≤ k + 1 ∨ M.length ≤ L.length) := fun S hS ⟨r, _, e⟩ => by
    subst e
    refine ⟨fun y hy => ?_, .inl (by rw [List.length_take]; omega)⟩
    have := List.mem_of_mem_take hy
    simp only [List.mem_append, List.mem_singleton] at this
    rcases this with (h | h) | h
    · exact hS y (List.mem_of_mem_take h)
    · rw [h]; exact hx
    · exact hS y (List.mem_of_mem_drop h)
  obtain ⟨r, _, ⟨_, h⟩ | ⟨_, _, h⟩ | ⟨_, _, h⟩⟩ := h
  · exact put L hL h
  · subst h; exact ⟨hL, .inr (Nat.le_refl _)⟩
  · exact put _ (fun y hy => by
      rcases List.mem_append.1 hy with h | h
      · exact hL y (List.mem_of_mem_take h)
      · exact hL y (List.mem_of_mem_drop h)) h
def kMergeRun (A : Lz) (args : List FV) (q : FV → FV → Prop) : Prop :=
  match args with
  | [.int .i64 k, .row (.agg [.str, .int .u64, .int .u64]) l, .row (.agg [.str, .int .u64, .int .u64]) l'] =>
    ∃ L L' : List It, (l = its L ∧ (∀ x ∈ L, x.ok) ∧ L.length < 4611686018427387904 ∧ l' = its L' ∧ (∀ x ∈ L', x.ok) ∧ L'.length < 4611686018427387904) ∧
      ((rightB k L && rightB k L') = false → q (.tup [.nils, .int .i64 1]) .dead) ∧
      ((rightB k L && rightB k L') = true → ∀ M, addsR k.toNat L L' M → q (.tup [.row (.agg [.str, .int .u64, .int .u64]) (its M), .int .i64 0]) .dead)
  | _ => False
theorem kMerge_ok : SpecOk EV 20 ⟨false, kMergeRun⟩ := by
  refine spec_go (.cons (f := 14) kright_ok (.cons (f := 31) clone_item_ok (.cons (f := 27) add_ok (.nil _)))) (fn := Tryd.f20) rfl rfl Tryd.func20 rfl false [] _ ?_
  intro A hA args q h
  unfold kMergeRun at h
  split at h
  · rename_i k l l'
    obtain ⟨L, L', ⟨hl, hL, hb, hl', hL', hb'⟩, h1, h2⟩ := h
    have hll : l.length = L.length := by rw [hl, its_len]
    have hll' : l'.length = L'.length := by rw [hl', its_len]
    refine ⟨Nat.le_of_ble_eq_true rfl, ?_⟩
    cbv
    refine ⟨L, ⟨hl, hL, hb⟩, ?_⟩
    cbv
    split <;> rename_i hz <;> cbv
    · subst hA
      have hz : (!(rightB k L)) = true := hz
      exact h1 (by simp at hz; simp [hz])
    · have hr : rightB k L = true := by subst hA; have hz : (!(rightB k L)) = false := hz; simpa using hz
      refine ⟨L', ⟨hl', hL', hb'⟩, ?_⟩
      cbv
      split <;> rename_i hz2 <;> cbv
      · subst hA
        have hz2 : (!(rightB k L')) = true := hz2
        exact h1 (by simp at hz2; simp [hz2])
      · have hr' : rightB k L' = true := by subst hA; have hz2 : (!(rightB k L')) = false := hz2; simpa using hz2
        obtain ⟨kn, hkn, hkt, hk1, hk2, hlen⟩ := right_nat hr
        obtain ⟨_, _, hkt', _, _, hlen'⟩ := right_nat hr'
        refine ⟨by subst hA; exact fun _ => room_of (by omega), ?_⟩
        refine loop_intro hA [(0, .keep), (8, .row (.agg [.str, .int .u64, .int .u64])), (23, .keep), (24, .keep), (25, .keep)] (fun n s => ∃ m w, s = st [(0, .int .i64 k), (8, .row (.agg [.str, .int .u64, .int .u64]) m), (23, .row (.agg [.str, .int .u64, .int .u64]) l'), (24, .int .i64 (A _ fun _ => (l'.length : Int))), (25, .int .i64 w)] [] ∧
          ∃ (M : List It) (i : Nat), m = its M ∧ w = i ∧ n + i = L'.length ∧ addsR kn L (L'.take i) M ∧ (∀ x ∈ M, x.ok) ∧ M.length ≤ kn + 1) L'.length ?_ ?_
        · cbv
          (iterate 2 apply Exists.intro); refine ⟨?_, ?_⟩; cbv
          subst hA
          exact ⟨L, 0, hl, rfl, rfl, rfl, hL, hlen⟩
        · rintro n s ⟨m, w, rfl, M, i, hm, hw, hn, hM, hMo, hMl⟩
          have hw0 : 0 ≤ w ∧ w ≤ l'.length := by (try simp only [nc] at *); omega
          have hw1 : w.toNat = i := by rw [hw]; rfl
          have e1 := its_key L' i
          have e2 := its_u L' i
          have e3 := its_w L' i
          rw [← hl', ← hw1] at e1 e2 e3
          cbv
          split <;> rename_i hz3 <;> (try simp only [List.length_replicate, Int.zero_tmod, toIs_ii, ii_len, Int.zero_tdiv, w0, hA, nE, shl, shr, std, zE32, zE64, nc, nth_rd', i64w, u32_wrap, p32, p31, p63, w6432, toIs_len, set_toIs, repl_toIs, app_toIs, tos1, tos0, p1, take_toIs, drop_toIs, ieq_iff, ieq_iff', ilt_iff, ilt_iff', ile_iff, ile_iff', gt_iff_lt, ge_iff_le, Bool.not_eq_true', Bool.not_eq_false', List.drop_zero, Nat.sub_zero] at hz3) <;> cbv
          · have hi : i < L'.length := by (try simp only [nc] at *); omega
            refine ⟨by subst hA; exact ⟨hw0.1, by rw [hw1, hll']; exact hi⟩, ?_⟩
            cbv
            refine ⟨kn, M, ⟨hkn, hk1, hm, hMo, by subst hA; show It.ok ⟨((G.nth l' w.toNat).cell 0).toS, ((G.nth l' w.toNat).cell 1).toI, ((G.nth l' w.toNat).cell 2).toI⟩; rw [e1, e2, e3, it_eta, hw1]; exact hL' _ (gi_mem hi), Nat.le_trans hMl (by omega)⟩, fun N hN => ?_⟩
            have hN' : addR kn M (gi L' i) N := by
              subst hA
              have hN : addR kn M ⟨((G.nth l' w.toNat).cell 0).toS, ((G.nth l' w.toNat).cell 1).toI, ((G.nth l' w.toNat).cell 2).toI⟩ N := hN
              rw [e1, e2, e3, hw1, it_eta] at hN
              exact hN
            obtain ⟨hNo, hNl⟩ := addR_ok hN' hMo (hL' _ (gi_mem hi))
            have hwk := wsucc hw (by omega)
            cbv
            refine ⟨n - 1, by (try simp only [nc] at *); omega, ?_⟩
            cbv
            (iterate 2 apply Exists.intro); refine ⟨?_, ?_⟩; cbv
            subst hA
            refine ⟨N, i + 1, by cases N <;> rfl, hwk, by omega, ?_, hNo, by omega⟩
            rw [List.take_succ_eq_append_getElem hi, ← gi_at hi]
            exact addsR_snoc hM hN'
          · have hi : L'.length ≤ i := by (try simp only [nc] at *); omega
            rw [List.take_of_length_le hi] at hM
            have := h2 (by simp [hr, hr']) M (by rw [hkt]; exact hM)
            rw [← hm] at this
            exact this
  · exact h.elim
end Go.Proofs.YtmndbhgbngkakaaDoor.Z
end
section
/- keep.All over plain data. No condition. -/
namespace Go.Proofs.YtmndbhgbngkakaaDoor.Z
open Go Go.RowKit Go.Proofs.YtmndbhgbngkakaaDoor.E Go.Proofs.YtmndbhgbngkakaaDoor.G Go.Proofs.YtmndbhgbngkakaaDoor.K Go.Proofs.YtmndbhgbngkakaaDoor.F Go.Proofs.YtmndbhgbngkakaaDoor.M Go.Proofs.YtmndbhgbngkakaaDoor.R
open Go.Proofs.YtmndbhgbngkakaaDoorW.PrintWords hiding rd
set_option linter.all false

set_option maxRecDepth 100000
set_option maxHeartbeats 4000000
def kAllRun (A : Lz) (args : List FV) (q : FV → FV → Prop) : Prop :=
  match args with
  | [.int .i64 k, .row (.agg [.str, .int .u64, .int .u64]) l'] =>
    ∃ L' : List It, (l' = its L' ∧ (∀ x ∈ L', x.ok) ∧ L'.length < 4611686018427387904) ∧
      (¬ (1 ≤ k ∧ k ≤ 1024) → q (.tup [.nils, .int .i64 1]) .dead) ∧
      (1 ≤ k ∧ k ≤ 1024 → ∀ i, i < L'.length → (∀ j, j < i → chkIt (gi L' j) = 0) → chkIt (gi L' i) ≠ 0 → q (.tup [.nils, .int .i64 (chkIt (gi L' i))]) .dead) ∧
      (1 ≤ k ∧ k ≤ 1024 → (∀ j, j < L'.length → chkIt (gi L' j) = 0) → ∀ M, addsR k.toNat [] L' M → q (.tup [.row (.agg [.str, .int .u64, .int .u64]) (its M), .int .i64 0]) .dead)
  | _ => False
theorem kAll_ok : SpecOk EV 10 ⟨false, kAllRun⟩ := by
  refine spec_go (.cons (f := 26) kfits_ok (.cons (f := 11) check_ok (.cons (f := 27) add_ok (.nil _)))) (fn := Tryd.f10) rfl rfl Tryd.func10 rfl false [] _ ?_
  intro A hA args q h
  unfold kAllRun at h
  split at h
  · rename_i k l'
    obtain ⟨L', ⟨hl', hL', hb'⟩, h1, h2, h3⟩ := h
    have hll' : l'.length = L'.length := by rw [hl', its_len]
    refine ⟨Nat.le_of_ble_eq_true rfl, ?_⟩
    cbv
    split <;> rename_i hz <;> cbv
    · subst hA
      have hz : (!(decide (1 ≤ k ∧ k ≤ 1024))) = true := hz
      refine h1 fun h => ?_
      rw [decide_eq_true h] at hz
      cases hz
    · have hk : 1 ≤ k ∧ k ≤ 1024 := by
        subst hA
        have hz : (!(decide (1 ≤ k ∧ k ≤ 1024))) = false := hz
        refine Classical.byContradiction fun h => ?_
        rw [decide_eq_false h] at hz
        cases hz
      obtain ⟨kn, hkn, hkt, hk1⟩ : ∃ n : Nat, k = n ∧ k.toNat = n ∧ n ≤ 1024 := ⟨k.toNat, by omega, rfl, by omega⟩
      refine loop_intro hA [(0, .keep), (6, .row (.agg [.str, .int .u64, .int .u64])), (13, .keep), (14, .keep), (15, .keep)] (fun n s => ∃ m w, s = st [(0, .int .i64 k), (6, .row (.agg [.str, .int .u64, .int .u64]) m), (13, .row (.agg [.str, .int .u64, .int .u64]) l'), (14, .int .i64 (A _ fun _ => (l'.length : Int))), (15, .int .i64 w)] [] ∧
        ∃ (M : List It) (i : Nat), m = its M ∧ w = i ∧ n + i = L'.length ∧ addsR kn [] (L'.take i) M ∧ (∀ x ∈ M, x.ok) ∧ M.length ≤ kn + 1 ∧ ∀ j, j < i → chkIt (gi L' j) = 0) L'.length ?_ ?_
      · cbv
        (iterate 2 apply Exists.intro); refine ⟨?_, ?_⟩; cbv
        subst hA
        exact ⟨[], 0, rfl, rfl, rfl, rfl, (fun x hx => nomatch hx), Nat.zero_le _, fun j hj => absurd hj (Nat.not_lt_zero j)⟩
      · rintro n s ⟨m, w, rfl, M, i, hm, hw, hn, hM, hMo, hMl, hP⟩
        have hw0 : 0 ≤ w ∧ w ≤ l'.length := by (try simp only [nc] at *); omega
        have hw1 : w.toNat = i := by rw [hw]; rfl
        have e1 := its_key L' i
        have e2 := its_u L' i
        have e3 := its_w L' i
        rw [← hl', ← hw1] at e1 e2 e3
        have hio : i < L'.length → It.ok ⟨((G.nth l' w.toNat).cell 0).toS, ((G.nth l' w.toNat).cell 1).toI, ((G.nth l' w.toNat).cell 2).toI⟩ := fun hi => by
          rw [e1, e2, e3, it_eta, hw1]; exact hL' _ (gi_mem hi)
        have hch : chkIt ⟨((G.nth l' w.toNat).cell 0).toS, ((G.nth l' w.toNat).cell 1).toI, ((G.nth l' w.toNat).cell 2).toI⟩ = chkIt (gi L' i) := by rw [e1, e2, e3, it_eta, hw1]
        cbv
        split <;> rename_i hz3 <;> (try simp only [List.length_replicate, Int.zero_tmod, toIs_ii, ii_len, Int.zero_tdiv, w0, hA, nE, shl, shr, std, zE32, zE64, nc, nth_rd', i64w, u32_wrap, p32, p31, p63, w6432, toIs_len, set_toIs, repl_toIs, app_toIs, tos1, tos0, p1, take_toIs, drop_toIs, ieq_iff, ieq_iff', ilt_iff, ilt_iff', ile_iff, ile_iff', gt_iff_lt, ge_iff_le, Bool.not_eq_true', Bool.not_eq_false', List.drop_zero, Nat.sub_zero] at hz3) <;> cbv
        · have hi : i < L'.length := by (try simp only [nc] at *); omega
          refine ⟨by subst hA; exact ⟨hw0.1, by rw [hw1, hll']; exact hi⟩, by rw [au hA]; subst hA; exact hio hi, ?_⟩
          cbv
          split <;> rename_i hz4 <;> cbv
          · subst hA
            have hz4 : (!ieq (chkIt ⟨((G.nth l' w.toNat).cell 0).toS, ((G.nth l' w.toNat).cell 1).toI, ((G.nth l' w.toNat).cell 2).toI⟩) 0) = true := hz4
            rw [hch] at hz4
            have := h2 hk i hi hP (by simpa [ieq] using hz4)
            rw [← hch] at this
            exact this
          · have hc0 : chkIt (gi L' i) = 0 := by
              subst hA
              have hz4 : (!ieq (chkIt ⟨((G.nth l' w.toNat).cell 0).toS, ((G.nth l' w.toNat).cell 1).toI, ((G.nth l' w.toNat).cell 2).toI⟩) 0) = false := hz4
              rw [hch] at hz4
              simpa [ieq] using hz4
            refine ⟨kn, M, ⟨hkn, hk1, hm, hMo, by subst hA; exact hio hi, Nat.le_trans hMl (by omega)⟩, fun N hN => ?_⟩
            have hN' : addR kn M (gi L' i) N := by
              subst hA
              have hN : addR kn M ⟨((G.nth l' w.toNat).cell 0).toS, ((G.nth l' w.toNat).cell 1).toI, ((G.nth l' w.toNat).cell 2).toI⟩ N := hN
              rw [e1, e2, e3, hw1, it_eta] at hN
              exact hN
            obtain ⟨hNo, hNl⟩ := addR_ok hN' hMo (hL' _ (gi_mem hi))
            have hwk := wsucc hw (by omega)
            cbv
            refine ⟨n - 1, by (try simp only [nc] at *); omega, ?_⟩
            cbv
            (iterate 2 apply Exists.intro); refine ⟨?_, ?_⟩; cbv
            subst hA
            refine ⟨N, i + 1, by cases N <;> rfl, hwk, by omega, ?_, hNo, by omega, fun j hj => ?_⟩
            · rw [List.take_succ_eq_append_getElem hi, ← gi_at hi]
              exact addsR_snoc hM hN'
            · by_cases e : j = i
              · rw [e]; exact hc0
              · exact hP j (by omega)
        · have hi : L'.length ≤ i := by (try simp only [nc] at *); omega
          rw [List.take_of_length_le hi] at hM
          have := h3 hk (fun j hj => hP j (by omega)) M (by rw [hkt]; exact hM)
          rw [← hm] at this
          exact this
  · exact h.elim
end Go.Proofs.YtmndbhgbngkakaaDoor.Z
end
section
/- keep.Cut, Sample over plain data. No condition. -/
namespace Go.Proofs.YtmndbhgbngkakaaDoor.Z
open Go Go.RowKit Go.Proofs.YtmndbhgbngkakaaDoor.E Go.Proofs.YtmndbhgbngkakaaDoor.G Go.Proofs.YtmndbhgbngkakaaDoor.K Go.Proofs.YtmndbhgbngkakaaDoor.F Go.Proofs.YtmndbhgbngkakaaDoor.M Go.Proofs.YtmndbhgbngkakaaDoor.R
open Go.Proofs.YtmndbhgbngkakaaDoorW.PrintWords hiding rd
set_option linter.all false

set_option maxRecDepth 100000
set_option maxHeartbeats 4000000
def kCutRun (A : Lz) (args : List FV) (q : FV → FV → Prop) : Prop :=
  match args with
  | [.int .i64 k, .row (.agg [.str, .int .u64, .int .u64]) l, .int .i64 c] =>
    ∃ L : List It, (l = its L ∧ (∀ x ∈ L, x.ok) ∧ L.length < 4611686018427387904) ∧
      (¬ (rightB k L = true ∧ 1 ≤ c ∧ c ≤ k) → q (.tup [.nils, .int .i64 1]) .dead) ∧
      (rightB k L = true → 1 ≤ c → c ≤ k → q (.tup [.row (.agg [.str, .int .u64, .int .u64]) (its (L.take (c.toNat + 1))), .int .i64 0]) .dead)
  | _ => False
theorem take_its0 {R : List It} {n : Nat} : List.take (((min n R.length : Nat) : Int).toNat - 0) (List.drop 0 (its R)) = its (R.take n) := by
  rw [Int.toNat_natCast, List.drop_zero, Nat.sub_zero, its_take]
  congr 1
  rw [List.take_eq_take_iff]
  omega
theorem min_its0 {a : Int} {n : Nat} {R : List It} (ha : a = n) : (if a < ((its R).length : Int) then a else ((its R).length : Int)) = ((min n R.length : Nat) : Int) := by
  rw [its_len, ha]
  split <;> omega
theorem kCut_ok : SpecOk EV 16 ⟨false, kCutRun⟩ := by
  refine spec_go (.cons (f := 14) kright_ok (.cons (f := 31) clone_item_ok (.nil _))) (fn := Tryd.f16) rfl rfl Tryd.func16 rfl false [] _ ?_
  intro A hA args q h
  unfold kCutRun at h
  split at h
  · rename_i k l c
    obtain ⟨L, ⟨hl, hL, hb⟩, h1, h2⟩ := h
    refine ⟨Nat.le_of_ble_eq_true rfl, ?_⟩
    cbv
    refine ⟨L, ⟨hl, hL, hb⟩, ?_⟩
    cbv
    split <;> rename_i hz <;> cbv
    · subst hA
      have hz : (!(rightB k L)) = true := hz
      simp at hz
      exact h1 fun h => by rw [hz] at h; cases h.1
    · have hr : rightB k L = true := by subst hA; have hz : (!(rightB k L)) = false := hz; simpa using hz
      obtain ⟨kn, hkn, hkt, hk1, hk2, hlen⟩ := right_nat hr
      split <;> rename_i hz2 <;> (try simp only [List.length_replicate, Int.zero_tmod, toIs_ii, ii_len, Int.zero_tdiv, w0, hA, nE, shl, shr, std, zE32, zE64, nc, nth_rd', i64w, u32_wrap, p32, p31, p63, w6432, toIs_len, set_toIs, repl_toIs, app_toIs, tos1, tos0, p1, take_toIs, drop_toIs, ieq_iff, ieq_iff', ilt_iff, ilt_iff', ile_iff, ile_iff', gt_iff_lt, ge_iff_le, Bool.not_eq_true', Bool.not_eq_false', List.drop_zero, Nat.sub_zero] at hz2) <;> cbv
      · exact h1 fun h => by have := h.2.1; omega
      · split <;> rename_i hz3 <;> (try simp only [List.length_replicate, Int.zero_tmod, toIs_ii, ii_len, Int.zero_tdiv, w0, hA, nE, shl, shr, std, zE32, zE64, nc, nth_rd', i64w, u32_wrap, p32, p31, p63, w6432, toIs_len, set_toIs, repl_toIs, app_toIs, tos1, tos0, p1, take_toIs, drop_toIs, ieq_iff, ieq_iff', ilt_iff, ilt_iff', ile_iff, ile_iff', gt_iff_lt, ge_iff_le, Bool.not_eq_true', Bool.not_eq_false', List.drop_zero, Nat.sub_zero] at hz3) <;> cbv
        · exact h1 fun h => by have := h.2.2; omega
        · subst hA
          subst hl
          have hwc : IntKind.i64.wrap (c + 1) = ((c.toNat + 1 : Nat) : Int) := by rw [i64w]; unfold wrap64; omega
          have hmn := min_its0 (R := L) hwc
          change (0 ≤ (if IntKind.i64.wrap (c + 1) < ((its L).length : Int) then IntKind.i64.wrap (c + 1) else ((its L).length : Int)) ∧ (if IntKind.i64.wrap (c + 1) < ((its L).length : Int) then IntKind.i64.wrap (c + 1) else ((its L).length : Int)).toNat ≤ (its L).length) ∧ (List.take ((if IntKind.i64.wrap (c + 1) < ((its L).length : Int) then IntKind.i64.wrap (c + 1) else ((its L).length : Int)).toNat - 0) (List.drop 0 (its L)) ≠ [] → room 32 (List.take ((if IntKind.i64.wrap (c + 1) < ((its L).length : Int) then IntKind.i64.wrap (c + 1) else ((its L).length : Int)).toNat - 0) (List.drop 0 (its L)))) ∧ q (.tup [.row (.agg [.str, .int .u64, .int .u64]) (List.take ((if IntKind.i64.wrap (c + 1) < ((its L).length : Int) then IntKind.i64.wrap (c + 1) else ((its L).length : Int)).toNat - 0) (List.drop 0 (its L))), .int .i64 0]) .dead
          rw [hmn]
          refine ⟨⟨Int.natCast_nonneg _, by rw [its_len, Int.toNat_natCast]; exact Nat.min_le_right _ _⟩, fun _ => room_of ?_, ?_⟩
          · rw [take_its0, its_len, List.length_take]; exact Nat.le_trans (Nat.min_le_right _ _) (Nat.le_trans hlen (by omega))
          · have := h2 hr (by omega) (by omega)
            rw [← take_its0] at this
            exact this
  · exact h.elim
end Go.Proofs.YtmndbhgbngkakaaDoor.Z
end
