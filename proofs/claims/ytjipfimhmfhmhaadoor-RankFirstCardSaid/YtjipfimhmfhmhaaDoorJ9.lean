/- RankSorts and RankFirst, walked. No condition. -/
import Derived.Test.YtjipfimhmfhmhaaDoorJ8
namespace Go.Proofs.YtjipfimhmfhmhaaDoor.Z
open Go Go.RowKit Go.Proofs.YtjipfimhmfhmhaaDoor.E Go.Proofs.YtjipfimhmfhmhaaDoor.G Go.Proofs.YtjipfimhmfhmhaaDoor.K Go.Proofs.YtjipfimhmfhmhaaDoor.F Go.Proofs.YtjipfimhmfhmhaaDoor.M Go.Proofs.YtjipfimhmfhmhaaDoor.R
open Go.Proofs.YtjipfimhmfhmhaaDoorW.PrintWords hiding rd
set_option linter.all false

set_option maxRecDepth 100000
set_option maxHeartbeats 4000000
def lawRn (A : Lz) (args : List FV) (q : FV → FV → Prop) : Prop :=
  match args with
  | [.row (.agg [.str, .int .u64, .int .u64]) l, .int .i64 n] => ∃ L : List It, (l = its L ∧ (∀ x ∈ L, x.ok)) ∧ q (.bool true) .dead
  | _ => False
theorem small_len {L : List It} (h : smallB L = true) : L.length ≤ 60 := by
  unfold smallB at h
  simp only [Bool.and_eq_true, decide_eq_true_eq] at h
  exact h.1
theorem sortI_may {L : List It} (hL : ∀ x ∈ L, x.ok) (h : L.all mayIt = true) : sortI L = srt cmpIt L := by
  unfold sortI
  rw [any_may hL, h]; rfl
theorem least_len {L : List It} {n : Int} : (leastI L n).length ≤ (sortI L).length := by unfold leastI; rw [List.length_take]; omega
theorem least_app (L : List It) (n : Int) : leastI L n ++ (sortI L).drop (leastI L n).length = sortI L := by
  unfold leastI
  rw [List.length_take]
  rcases Nat.le_total n.toNat (sortI L).length with h | h
  · rw [Nat.min_eq_left h, List.take_append_drop]
  · rw [Nat.min_eq_right h, List.take_of_length_le h, List.drop_length, List.append_nil]
theorem least_take (L : List It) (n : Int) : (sortI L).take (leastI L n).length = leastI L n := by
  have := congrArg (List.take (leastI L n).length) (least_app L n)
  rw [List.take_left'] at this
  · exact this.symm
  · rfl
/-- None of the first ones stands behind another one. -/
theorem first_le {L : List It} {n : Int} {M : List Gi} (hM : L = gs M) (hS : sortI L = srt cmpIt L) {x y : It} (hx : x ∈ leastI L n) (hy : y ∈ (sortI L).drop (leastI L n).length) : cmpIt x y ≤ 0 := by
  have h1 := srt_srtd cG_pre M
  have h2 : (gs (srt cG M)).Pairwise fun x y => cmpIt x y ≤ 0 := by
    unfold gs
    rw [List.pairwise_map]
    exact h1
  rw [gs_srt, ← hM, ← hS, ← least_app L n] at h2
  exact (List.pairwise_append.1 h2).2.2 x hx y hy
theorem rfirst_ok : SpecOk EV 7 ⟨false, lawRn⟩ := by
  refine spec_go (.cons (f := 22) small_ok (.cons (f := 14) awake_ok (.cons (f := 25) all_ok (.cons (f := 23) sort_ok (.cons (f := 24) least_ok (.cons (f := 18) cmpIt_ok (.cons (f := 27) same_ok (.nil _)))))))) (fn := Tryd.f7) rfl rfl Tryd.func7 rfl false [] _ ?_
  intro A hA args q h
  unfold lawRn at h
  split at h
  · rename_i l n
    obtain ⟨L, ⟨hl, hL⟩, h⟩ := h
    refine ⟨Nat.le_of_ble_eq_true rfl, ?_⟩
    cbv
    refine ⟨L, ⟨hl, hL⟩, ?_⟩
    cbv
    split <;> rename_i hz <;> (try simp only [List.length_replicate, Int.zero_tmod, toIs_ii, ii_len, Int.zero_tdiv, w0, hA, nE, shl, shr, std, zE32, zE64, nc, nth_rd', i64w, u32_wrap, p32, p31, p63, w6432, toIs_len, set_toIs, repl_toIs, app_toIs, tos1, tos0, p1, take_toIs, drop_toIs, ieq_iff, ieq_iff', ilt_iff, ilt_iff', ile_iff, ile_iff', gt_iff_lt, ge_iff_le, Bool.not_eq_true', Bool.not_eq_false', List.drop_zero, Nat.sub_zero] at hz) <;> cbv
    · subst hA; exact h
    · have hsm : smallB L = true := by simpa [notF] using hz
      have hl60 := small_len hsm
      refine ⟨L, ⟨hl, hL, by omega⟩, ?_⟩
      cbv
      split <;> rename_i hz <;> (try simp only [List.length_replicate, Int.zero_tmod, toIs_ii, ii_len, Int.zero_tdiv, w0, hA, nE, shl, shr, std, zE32, zE64, nc, nth_rd', i64w, u32_wrap, p32, p31, p63, w6432, toIs_len, set_toIs, repl_toIs, app_toIs, tos1, tos0, p1, take_toIs, drop_toIs, ieq_iff, ieq_iff', ilt_iff, ilt_iff', ile_iff, ile_iff', gt_iff_lt, ge_iff_le, Bool.not_eq_true', Bool.not_eq_false', List.drop_zero, Nat.sub_zero] at hz) <;> cbv
      · subst hA; exact h
      · have ha : L.all mayIt = true := by simpa [notF] using hz
        obtain ⟨M, hM⟩ := gs_may hL ha
        have hS := sortI_may hL ha
        have hsl : (sortI L).length = L.length := by rw [hS, srt_len]
        have hll : l.length = L.length := by rw [hl, its_len]
        have hle := least_len (L := L) (n := n)
        refine ⟨L, ⟨hl, hL, by omega⟩, ?_⟩
        cbv
        refine ⟨L, ⟨hl, hL, by omega⟩, ?_⟩
        cbv
        split <;> rename_i hz2 <;> (try simp only [List.length_replicate, Int.zero_tmod, toIs_ii, ii_len, Int.zero_tdiv, w0, hA, nE, shl, shr, std, zE32, zE64, nc, nth_rd', i64w, u32_wrap, p32, p31, p63, w6432, toIs_len, set_toIs, repl_toIs, app_toIs, tos1, tos0, p1, take_toIs, drop_toIs, ieq_iff, ieq_iff', ilt_iff, ilt_iff', ile_iff, ile_iff', gt_iff_lt, ge_iff_le, Bool.not_eq_true', Bool.not_eq_false', List.drop_zero, Nat.sub_zero] at hz2) <;> cbv
        · exfalso; rw [its_len] at hz2; (try simp only [nc] at *); omega
        · split <;> rename_i hz3 <;> (try simp only [List.length_replicate, Int.zero_tmod, toIs_ii, ii_len, Int.zero_tdiv, w0, hA, nE, shl, shr, std, zE32, zE64, nc, nth_rd', i64w, u32_wrap, p32, p31, p63, w6432, toIs_len, set_toIs, repl_toIs, app_toIs, tos1, tos0, p1, take_toIs, drop_toIs, ieq_iff, ieq_iff', ilt_iff, ilt_iff', ile_iff, ile_iff', gt_iff_lt, ge_iff_le, Bool.not_eq_true', Bool.not_eq_false', List.drop_zero, Nat.sub_zero] at hz3) <;> cbv
          · exfalso; rw [its_len, its_len] at hz3; (try simp only [nc] at *); omega
          · refine loop_intro hA [(5, .keep), (6, .keep), (37, .keep), (38, .keep), (39, .keep)] (fun m s => ∃ S T c w, s = st [(5, .row (.agg [.str, .int .u64, .int .u64]) S), (6, .row (.agg [.str, .int .u64, .int .u64]) T), (37, .row (.agg [.str, .int .u64, .int .u64]) T), (38, .int .i64 c), (39, .int .i64 w)] [] ∧
              (S = its (sortI L) ∧ T = its (leastI L n) ∧ c = (T.length : Int)) ∧ ∃ k : Nat, w = (k : Int) ∧ m + k = (leastI L n).length) (leastI L n).length ?_ ?_
            · cbv
              (iterate 4 apply Exists.intro); refine ⟨?_, ?_⟩; cbv
              subst hA
              exact ⟨⟨rfl, rfl, rfl⟩, 0, rfl, rfl⟩
            · rintro m s ⟨S, T, c, w, rfl, ⟨hS', hT', hc⟩, k, hw, hm⟩
              have hSl : S.length = (sortI L).length := by rw [hS', its_len]
              have hTl : T.length = (leastI L n).length := by rw [hT', its_len]
              cbv
              split <;> rename_i hz <;> (try simp only [List.length_replicate, Int.zero_tmod, toIs_ii, ii_len, Int.zero_tdiv, w0, hA, nE, shl, shr, std, zE32, zE64, nc, nth_rd', i64w, u32_wrap, p32, p31, p63, w6432, toIs_len, set_toIs, repl_toIs, app_toIs, tos1, tos0, p1, take_toIs, drop_toIs, ieq_iff, ieq_iff', ilt_iff, ilt_iff', ile_iff, ile_iff', gt_iff_lt, ge_iff_le, Bool.not_eq_true', Bool.not_eq_false', List.drop_zero, Nat.sub_zero] at hz) <;> cbv
              · have hk : k < (leastI L n).length := by (try simp only [nc] at *); omega
                have hwk := wsucc hw (by omega)
                have ixT : 0 ≤ w ∧ w.toNat < T.length := ⟨by rw [hw]; exact Int.natCast_nonneg _, by rw [toN hw]; omega⟩
                have e1 := its_key (leastI L n) w.toNat
                have e2 := its_u (leastI L n) w.toNat
                have e3 := its_w (leastI L n) w.toNat
                rw [← hT'] at e1 e2 e3
                have hx := gi_mem (L := leastI L n) (n := w.toNat) (by rw [toN hw]; exact hk)
                have hbd : (0 : Int) ≤ (T.length : Int) ∧ (T.length : Int).toNat ≤ S.length := ⟨by omega, by omega⟩
                refine ⟨by subst hA; exact ixT, by subst hA; exact hbd, ?_⟩
                refine loop_intro hA [(5, .keep), (6, .keep), (8, .box), (37, .keep), (38, .keep), (39, .keep), (46, .keep), (47, .keep), (48, .keep)] (fun m' s => ∃ a b d Z c' w', s = st [(5, .row (.agg [.str, .int .u64, .int .u64]) S), (6, .row (.agg [.str, .int .u64, .int .u64]) T), (8, .ptr 8 0 0), (37, .row (.agg [.str, .int .u64, .int .u64]) T), (38, .int .i64 c), (39, .int .i64 w), (46, .row (.agg [.str, .int .u64, .int .u64]) Z), (47, .int .i64 c'), (48, .int .i64 w')] [(8, ⟨0, true, .box [.str a, .int .u64 b, .int .u64 d]⟩)] ∧
                  (a = (gi (leastI L n) w.toNat).key ∧ b = (gi (leastI L n) w.toNat).u ∧ d = (gi (leastI L n) w.toNat).w ∧ Z = its ((sortI L).drop (leastI L n).length) ∧ c' = (Z.length : Int)) ∧ ∃ k' : Nat, w' = (k' : Int) ∧ m' + k' = Z.length) (S.length - T.length) ?_ ?_
                · cbv
                  (iterate 6 apply Exists.intro); refine ⟨?_, ?_⟩; cbv
                  subst hA
                  refine ⟨⟨e1, e2, e3, ?_, rfl⟩, 0, rfl, ?_⟩
                  · simp only [std]
                    rw [List.take_of_length_le (by simp), hS', its_drop]
                    congr 1
                    rw [Int.toNat_natCast, hTl]
                  · simp only [std]
                    rw [List.take_of_length_le (by simp), List.length_drop, Int.toNat_natCast]; rfl
                · rintro m' s ⟨a, b, d, Z, c', w', rfl, ⟨ha', hb', hd', hZ, hc'⟩, k', hw', hm'⟩
                  have hZl : Z.length = ((sortI L).drop (leastI L n).length).length := by rw [hZ, its_len]
                  have hZ60 : Z.length ≤ 60 := by rw [hZl, List.length_drop]; omega
                  cbv
                  split <;> rename_i hz <;> (try simp only [List.length_replicate, Int.zero_tmod, toIs_ii, ii_len, Int.zero_tdiv, w0, hA, nE, shl, shr, std, zE32, zE64, nc, nth_rd', i64w, u32_wrap, p32, p31, p63, w6432, toIs_len, set_toIs, repl_toIs, app_toIs, tos1, tos0, p1, take_toIs, drop_toIs, ieq_iff, ieq_iff', ilt_iff, ilt_iff', ile_iff, ile_iff', gt_iff_lt, ge_iff_le, Bool.not_eq_true', Bool.not_eq_false', List.drop_zero, Nat.sub_zero] at hz) <;> cbv
                  · have hk' : k' < Z.length := by (try simp only [nc] at *); omega
                    have hwk' := wsucc hw' (by omega)
                    have ixZ : 0 ≤ w' ∧ w'.toNat < Z.length := ⟨by rw [hw']; exact Int.natCast_nonneg _, by rw [toN hw']; omega⟩
                    have f1 := its_key ((sortI L).drop (leastI L n).length) w'.toNat
                    have f2 := its_u ((sortI L).drop (leastI L n).length) w'.toNat
                    have f3 := its_w ((sortI L).drop (leastI L n).length) w'.toNat
                    rw [← hZ] at f1 f2 f3
                    have hy := gi_mem (L := (sortI L).drop (leastI L n).length) (n := w'.toNat) (by rw [toN hw', ← hZl]; exact hk')
                    have hxy := first_le (n := n) hM hS hx hy
                    have okS : ∀ z ∈ sortI L, z.ok := fun z hz => by
                      rw [hS, hM, ← gs_srt] at hz
                      exact gs_ok z hz
                    have okx : It.ok ⟨a, b, d⟩ := by rw [ha', hb', hd']; exact okS _ (List.mem_of_mem_take hx)
                    have oky : It.ok ⟨((G.nth Z w'.toNat).cell 0).toS, ((G.nth Z w'.toNat).cell 1).toI, ((G.nth Z w'.toNat).cell 2).toI⟩ := by rw [f1, f2, f3]; exact okS _ (List.mem_of_mem_drop hy)
                    refine ⟨by subst hA; exact ixZ, by subst hA; exact ⟨okx, oky⟩, ?_⟩
                    cbv
                    split <;> rename_i hz <;> (try simp only [List.length_replicate, Int.zero_tmod, toIs_ii, ii_len, Int.zero_tdiv, w0, hA, nE, shl, shr, std, zE32, zE64, nc, nth_rd', i64w, u32_wrap, p32, p31, p63, w6432, toIs_len, set_toIs, repl_toIs, app_toIs, tos1, tos0, p1, take_toIs, drop_toIs, ieq_iff, ieq_iff', ilt_iff, ilt_iff', ile_iff, ile_iff', gt_iff_lt, ge_iff_le, Bool.not_eq_true', Bool.not_eq_false', List.drop_zero, Nat.sub_zero] at hz) <;> cbv
                    · exfalso
                      rw [f1, f2, f3, ha', hb', hd'] at hz
                      exact absurd hz (Int.not_lt.2 hxy)
                    · refine ⟨m' - 1, by omega, ?_⟩
                      cbv
                      (iterate 6 apply Exists.intro); refine ⟨?_, ?_⟩; cbv
                      subst hA
                      exact ⟨⟨ha', hb', hd', hZ, hc'⟩, k' + 1, hwk', by omega⟩
                  · refine ⟨m - 1, by omega, ?_⟩
                    cbv
                    (iterate 4 apply Exists.intro); refine ⟨?_, ?_⟩; cbv
                    subst hA
                    exact ⟨⟨hS', hT', hc⟩, k + 1, hwk, by omega⟩
              · have hbd : (0 : Int) ≤ (T.length : Int) ∧ (T.length : Int).toNat ≤ S.length := ⟨by omega, by omega⟩
                refine ⟨by subst hA; exact hbd, ?_⟩
                cbv
                refine ⟨leastI L n, leastI L n, ⟨hT', ?_, by omega⟩, ?_⟩
                · rw [hA]; simp only [std]
                  rw [hS', List.drop_zero, Nat.sub_zero, Int.toNat_natCast, hTl, its_take, least_take]
                · cbv
                  split <;> rename_i hz <;> (try simp only [List.length_replicate, Int.zero_tmod, toIs_ii, ii_len, Int.zero_tdiv, w0, hA, nE, shl, shr, std, zE32, zE64, nc, nth_rd', i64w, u32_wrap, p32, p31, p63, w6432, toIs_len, set_toIs, repl_toIs, app_toIs, tos1, tos0, p1, take_toIs, drop_toIs, ieq_iff, ieq_iff', ilt_iff, ilt_iff', ile_iff, ile_iff', gt_iff_lt, ge_iff_le, Bool.not_eq_true', Bool.not_eq_false', List.drop_zero, Nat.sub_zero] at hz) <;> cbv
                  · subst hA; exact h
                  · exfalso; simp at hz
  · exact h.elim
end Go.Proofs.YtjipfimhmfhmhaaDoor.Z
