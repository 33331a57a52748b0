/- KeepMerges, walked. No condition. -/
import Derived.Test.YtmndbhgbngkakaaDoorKF
namespace Go.Proofs.YtmndbhgbngkakaaDoor.Z
open Go Go.RowKit Go.Proofs.YtmndbhgbngkakaaDoor.E Go.Proofs.YtmndbhgbngkakaaDoor.G Go.Proofs.YtmndbhgbngkakaaDoor.K Go.Proofs.YtmndbhgbngkakaaDoor.F Go.Proofs.YtmndbhgbngkakaaDoor.M Go.Proofs.YtmndbhgbngkakaaDoor.R
open Go.Proofs.YtmndbhgbngkakaaDoorW.PrintWords hiding rd
set_option linter.all false

set_option maxRecDepth 100000
set_option maxHeartbeats 4000000
/-- Who is alike is equal: of those ahead of i. -/
def alP (L : List It) (i : Nat) : Prop := ∀ m, m < i → cmpIt (gi L i) (gi L m) = 0 → gi L i = gi L m
noncomputable instance (L : List It) : Decidable (∀ i, i < L.length → alP L i) := Classical.propDecidable _
noncomputable def alB (L : List It) : Bool := decide (∀ i, i < L.length → alP L i)
theorem alike_ok : SpecOk EV 19 ⟨false, rowIt fun A L => .bool (A _ fun _ => alB L)⟩ := by
  refine spec_go (.cons (f := 18) cmpIt_ok (.nil _)) (fn := Tryd.f19) rfl rfl Tryd.func19 rfl false [] _ ?_
  intro A hA args q h
  unfold rowIt at h
  split at h
  · rename_i l
    obtain ⟨L, ⟨hl, hL, hb⟩, h⟩ := h
    have hll : l.length = L.length := by rw [hl, its_len]
    refine ⟨Nat.le_of_ble_eq_true rfl, ?_⟩
    cbv
    refine loop_intro hA [(0, .keep), (7, .keep), (8, .keep), (9, .keep)] (fun n s => ∃ w, s = st [(0, .row (.agg [.str, .int .u64, .int .u64]) l), (7, .row (.agg [.str, .int .u64, .int .u64]) l), (8, .int .i64 (A _ fun _ => (l.length : Int))), (9, .int .i64 w)] [] ∧
      ∃ i : Nat, w = i ∧ n + i = L.length ∧ ∀ t, t < i → alP L t) L.length ?_ ?_
    · cbv
      (iterate 1 apply Exists.intro); refine ⟨?_, ?_⟩; cbv
      exact ⟨0, rfl, rfl, fun t ht => absurd ht (Nat.not_lt_zero t)⟩
    · rintro n s ⟨w, rfl, i, hw, hn, hal⟩
      have hw0 : 0 ≤ w ∧ w ≤ l.length := by (try simp only [nc] at *); omega
      obtain ⟨a1, a2, a3⟩ := rdit hl (toN hw)
      cbv
      split <;> rename_i hz3 <;> (try simp only [List.length_replicate, Int.zero_tmod, toIs_ii, ii_len, Int.zero_tdiv, w0, hA, nE, shl, shr, std, zE32, zE64, nc, nth_rd', i64w, u32_wrap, p32, p31, p63, w6432, toIs_len, set_toIs, repl_toIs, app_toIs, tos1, tos0, p1, take_toIs, drop_toIs, ieq_iff, ieq_iff', ilt_iff, ilt_iff', ile_iff, ile_iff', gt_iff_lt, ge_iff_le, Bool.not_eq_true', Bool.not_eq_false', List.drop_zero, Nat.sub_zero] at hz3) <;> cbv
      · have hil : i < L.length := by (try simp only [nc] at *); omega
        have hokx := hL _ (gi_mem hil)
        refine ⟨by subst hA; exact ⟨hw0.1, by rw [toN hw, hll]; exact hil⟩, ?_⟩
        cbv
        refine ⟨by subst hA; exact ⟨hw0.1, by rw [toN hw, hll]; exact Nat.le_of_lt hil⟩, ?_⟩
        refine loop_intro hA [(0, .keep), (4, .box), (7, .keep), (8, .keep), (9, .keep), (16, .keep), (17, .keep), (18, .keep)] (fun m s => ∃ ka ua wa z c v, s = st [(0, .row (.agg [.str, .int .u64, .int .u64]) l), (4, .ptr 4 0 0), (7, .row (.agg [.str, .int .u64, .int .u64]) l), (8, .int .i64 (A _ fun _ => (l.length : Int))), (9, .int .i64 w), (16, .row (.agg [.str, .int .u64, .int .u64]) z), (17, .int .i64 c), (18, .int .i64 v)] [(4, ⟨0, true, .box [.str ka, .int .u64 ua, .int .u64 wa]⟩)] ∧
          (ka = (gi L i).key ∧ ua = (gi L i).u ∧ wa = (gi L i).w ∧ z = its (L.take i) ∧ c = i) ∧ ∃ j : Nat, v = j ∧ m + j = i ∧ ∀ t, t < j → cmpIt (gi L i) (gi L t) = 0 → gi L i = gi L t) i ?_ ?_
        · cbv
          (iterate 6 apply Exists.intro); refine ⟨?_, ?_⟩; cbv
          subst hA
          have ez : List.take (w.toNat - 0) (List.drop 0 l) = its (L.take i) := by rw [hl, toN hw, List.drop_zero, Nat.sub_zero, its_take]
          refine ⟨⟨a1, a2, a3, ez, ?_⟩, 0, rfl, rfl, fun t ht => absurd ht (Nat.not_lt_zero t)⟩
          show ((List.take (w.toNat - 0) (List.drop 0 l)).length : Int) = i
          rw [ez, its_len, List.length_take]; omega
        · rintro m s ⟨ka, ua, wa, z, c, v, rfl, ⟨ha, hu, hwa, hz', hc⟩, j, hv, hm, hP⟩
          have hzl : z.length = i := by rw [hz', its_len, List.length_take]; omega
          obtain ⟨b1, b2, b3⟩ := rdit hz' (toN hv)
          cbv
          split <;> rename_i hz4 <;> (try simp only [List.length_replicate, Int.zero_tmod, toIs_ii, ii_len, Int.zero_tdiv, w0, hA, nE, shl, shr, std, zE32, zE64, nc, nth_rd', i64w, u32_wrap, p32, p31, p63, w6432, toIs_len, set_toIs, repl_toIs, app_toIs, tos1, tos0, p1, take_toIs, drop_toIs, ieq_iff, ieq_iff', ilt_iff, ilt_iff', ile_iff, ile_iff', gt_iff_lt, ge_iff_le, Bool.not_eq_true', Bool.not_eq_false', List.drop_zero, Nat.sub_zero] at hz4) <;> cbv
          · have hji : j < i := by (try simp only [nc] at *); omega
            have hgj : gi (L.take i) j = gi L j := by unfold gi; rw [List.getD_eq_getElem?_getD, List.getD_eq_getElem?_getD, List.getElem?_take_of_lt hji]
            rw [hgj] at b1 b2 b3
            have hoky := hL _ (gi_mem (show j < L.length by omega))
            refine ⟨by subst hA; exact ⟨by rw [hv]; exact Int.natCast_nonneg _, by rw [toN hv, hzl]; exact hji⟩, ?_⟩
            cbv
            refine ⟨by subst hA; simp only [std, b1, b2, b3, ha, hu, hwa]; exact ⟨hokx, hoky⟩, ?_⟩
            cbv
            split <;> rename_i hz5 <;> (try simp only [List.length_replicate, Int.zero_tmod, toIs_ii, ii_len, Int.zero_tdiv, w0, hA, nE, shl, shr, std, zE32, zE64, nc, nth_rd', i64w, u32_wrap, p32, p31, p63, w6432, toIs_len, set_toIs, repl_toIs, app_toIs, tos1, tos0, p1, take_toIs, drop_toIs, ieq_iff, ieq_iff', ilt_iff, ilt_iff', ile_iff, ile_iff', gt_iff_lt, ge_iff_le, Bool.not_eq_true', Bool.not_eq_false', List.drop_zero, Nat.sub_zero] at hz5) <;> cbv
            · split <;> rename_i hz6 <;> cbv
              · subst hA
                refine fin_bool h ?_
                refine (decide_eq_false fun hall => ?_).symm
                have := hall i hil j hji (by rw [b1, b2, b3, ha, hu, hwa] at hz5; exact hz5)
                simp only [std, b1, b2, b3, ha, hu, hwa, eqL_it] at hz6
                simp [this] at hz6
              · refine ⟨m - 1, by omega, ?_⟩
                cbv
                (iterate 6 apply Exists.intro); refine ⟨?_, ?_⟩; cbv
                subst hA
                refine ⟨⟨ha, hu, hwa, hz', hc⟩, j + 1, wsucc hv (by omega), by omega, fun t ht => ?_⟩
                by_cases e2 : t = j
                · subst e2
                  simp only [std, b1, b2, b3, ha, hu, hwa, eqL_it] at hz6
                  intro _
                  simpa using hz6
                · exact hP t (by omega)
            · refine ⟨m - 1, by omega, ?_⟩
              cbv
              (iterate 6 apply Exists.intro); refine ⟨?_, ?_⟩; cbv
              subst hA
              refine ⟨⟨ha, hu, hwa, hz', hc⟩, j + 1, wsucc hv (by omega), by omega, fun t ht => ?_⟩
              by_cases e2 : t = j
              · subst e2
                rw [b1, b2, b3, ha, hu, hwa] at hz5
                exact fun h => absurd h hz5
              · exact hP t (by omega)
          · have hji : j = i := by (try simp only [nc] at *); omega
            subst hji
            refine ⟨n - 1, by omega, ?_⟩
            cbv
            (iterate 1 apply Exists.intro); refine ⟨?_, ?_⟩; cbv
            subst hA
            refine ⟨j + 1, wsucc hw (by omega), by omega, fun t ht => ?_⟩
            by_cases e2 : t = j
            · subst e2; exact hP
            · exact hal t (by omega)
      · have hil : i = L.length := by (try simp only [nc] at *); omega
        subst hil
        subst hA
        exact fin_bool h (decide_eq_true hal).symm
  · exact h.elim
end Go.Proofs.YtmndbhgbngkakaaDoor.Z
