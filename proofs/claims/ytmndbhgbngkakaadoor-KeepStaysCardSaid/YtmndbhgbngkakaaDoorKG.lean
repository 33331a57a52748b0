/- KeepStays, walked. No condition. -/
import Derived.Test.YtmndbhgbngkakaaDoorKF
namespace Go.Proofs.YtmndbhgbngkakaaDoor.Z
open Go Go.RowKit Go.Proofs.YtmndbhgbngkakaaDoor.E Go.Proofs.YtmndbhgbngkakaaDoor.G Go.Proofs.YtmndbhgbngkakaaDoor.K Go.Proofs.YtmndbhgbngkakaaDoor.F Go.Proofs.YtmndbhgbngkakaaDoor.M Go.Proofs.YtmndbhgbngkakaaDoor.R
open Go.Proofs.YtmndbhgbngkakaaDoorW.PrintWords hiding rd
set_option linter.all false

set_option maxRecDepth 100000
set_option maxHeartbeats 4000000
theorem right_add {k : Nat} {L : List It} {x : It} {M : List It} (hL : ∀ x ∈ L, x.ok) (hr : rightB k L = true) (hx : x.ok) (hc : chkIt x = 0) (h : addR k L x M) :
    ∃ (S T : List Gi) (y : Gi), L = gs S ∧ y.1 = x ∧ Srtd cG S ∧ Uq gk S ∧ S.length ≤ k + 1 ∧ Upd cG gk S y T ∧ M = gs (T.take (k + 1)) := by
  obtain ⟨h1, h2, h3, S, rfl, h4, h5⟩ := (right_gs hL).1 hr
  rw [gs_len] at h2
  have hw : 0 < x.w := by
    have h6 := may_chk hx
    rw [hc] at h6
    unfold mayIt at h6
    simp only [decide_true, Bool.and_eq_true, decide_eq_true_eq] at h6
    exact h6.2
  have hS : S.take (k + 1) = S := List.take_of_length_le (by omega)
  obtain ⟨T, hT, e⟩ := add_gs (x := ⟨x, hx, hw⟩) h4 h5 (by rw [hS]; exact h)
  exact ⟨S, T, ⟨x, hx, hw⟩, rfl, rfl, h4, h5, by omega, hT, e⟩
theorem stays1 {k : Nat} {L : List It} {i : Nat} {M : List It} (hL : ∀ x ∈ L, x.ok) (hr : rightB k L = true) (hi : i < L.length) (h : addR k L (gi L i) M) : M = L := by
  have hc := ((right_gs hL).1 hr).2.2.1 _ (gi_mem hi)
  obtain ⟨S, T, y, rfl, hy, h4, h5, h6, hT, rfl⟩ := right_add hL hr (hL _ (gi_mem hi)) hc h
  rw [gs_len] at hi
  rw [gi_g hi] at hy
  have hy : y = S[i] := Subtype.ext hy
  have hm : y ∈ S := by rw [hy]; exact List.getElem_mem hi
  have hTS : T = S := by
    rcases hT with ⟨h1, _⟩ | ⟨A, w, B, h1, h2, ⟨h3, rfl⟩ | ⟨h3, _⟩⟩
    · exact absurd rfl (h1 y hm)
    · rfl
    · have : w = y := h5.eq (by rw [h1]; simp) hm h2
      rw [this] at h3
      have := cG_pre.refl y
      omega
  rw [hTS, List.take_of_length_le h6]
theorem stays2 {k : Nat} {L : List It} {x : It} {M : List It} (hL : ∀ x ∈ L, x.ok) (hr : rightB k L = true) (hx : x.ok) (hc : chkIt x = 0) (hk : ∀ i, i < L.length → (gi L i).key ≠ x.key) (h : addR k L x M) : M = L ↔ L.length = k + 1 ∧ 0 ≤ cmpIt x (gi L k) := by
  obtain ⟨S, T, y, rfl, rfl, h4, h5, h6, hT, rfl⟩ := right_add hL hr hx hc h
  have hk' : ∀ z ∈ S, gk z ≠ gk y := fun z hz => by
    obtain ⟨i, hi, rfl⟩ := List.mem_iff_getElem.1 hz
    have := hk i (by rw [gs_len]; exact hi)
    rwa [gi_g hi] at this
  have hT : T = insL cG y S := by
    rcases hT with ⟨_, h⟩ | ⟨A, w, B, h1, h2, _⟩
    · exact h
    · exact absurd h2 (hk' w (by rw [h1]; simp))
  subst hT
  rw [gs_len]
  constructor
  · intro e
    have e := gs_inj e
    have hl := congrArg List.length e
    rw [List.length_take, insL_len] at hl
    have hl : S.length = k + 1 := by omega
    refine ⟨hl, Int.not_lt.1 fun g => ?_⟩
    rw [gi_g (by omega)] at g
    have := insL_take1 (c := cG) (x := y) (S := S) (n := k) fun z hz => by
      obtain ⟨hi, rfl⟩ := List.getElem?_eq_some_iff.1 hz
      have := cG_pre.anti S[k] y
      have g' : cG y S[k] < 0 := g
      omega
    rw [e] at this
    have hm : y ∈ S := by rw [← this]; exact insL_mem.2 (.inl rfl)
    exact hk' y hm rfl
  · rintro ⟨hl, g⟩
    rw [gi_g (by omega)] at g
    have g : 0 ≤ cG y (S[k]'(by omega)) := g
    have : ∀ z ∈ S, cG z y < 0 := fun z hz => by
      obtain ⟨i, hi, rfl⟩ := List.mem_iff_getElem.1 hz
      have a := srtd_get cG_pre h4 (i := i) (j := k) (by omega) (List.getElem?_eq_getElem hi) (List.getElem?_eq_getElem (by omega))
      have b := cG_pre.anti y (S[k]'(by omega))
      exact lt_of cG_pre kc_it (cG_pre.trans a (by omega)) (hk' _ (List.getElem_mem hi))
    rw [insL_end this, take_pre (by omega), List.take_of_length_le (by omega)]
def kStaysRun (A : Lz) (args : List FV) (q : FV → FV → Prop) : Prop :=
  match args with
  | [.int .i64 k, .row (.agg [.str, .int .u64, .int .u64]) l, .agg [.str kk, .int .u64 u, .int .u64 w]] => ∃ L : List It, (l = its L ∧ (∀ x ∈ L, x.ok) ∧ It.ok ⟨kk, u, w⟩) ∧ q (.bool true) .dead
  | _ => False
theorem kStays_ok : SpecOk EV 5 ⟨false, kStaysRun⟩ := by
  refine spec_go (.cons (f := 8) small_ok (.cons (f := 9) awake13_ok (.cons (f := 14) kright_ok (.cons (f := 11) check_ok (.cons (f := 17) kAdd_ok (.cons (f := 12) same_ok (.cons (f := 18) cmpIt_ok (.nil _)))))))) (fn := Tryd.f5) rfl rfl Tryd.func5 rfl false [] _ ?_
  intro A hA args q h
  unfold kStaysRun at h
  split at h
  · rename_i k l kk u wt
    obtain ⟨L, ⟨hl, hL, hx⟩, h⟩ := h
    have hll : l.length = L.length := by rw [hl, its_len]
    refine ⟨Nat.le_of_ble_eq_true rfl, ?_⟩
    cbv
    refine ⟨L, ⟨hl, hL⟩, ?_⟩
    cbv
    split <;> rename_i hz <;> (try simp only [List.length_replicate, Int.zero_tmod, toIs_ii, ii_len, Int.zero_tdiv, w0, hA, nE, shl, shr, std, zE32, zE64, nc, nth_rd', i64w, u32_wrap, p32, p31, p63, w6432, toIs_len, set_toIs, repl_toIs, app_toIs, tos1, tos0, p1, take_toIs, drop_toIs, ieq_iff, ieq_iff', ilt_iff, ilt_iff', ile_iff, ile_iff', gt_iff_lt, ge_iff_le, Bool.not_eq_true', Bool.not_eq_false', List.drop_zero, Nat.sub_zero] at hz) <;> cbv
    · subst hA; exact h
    have hsm : smallB L = true := by simpa [notF] using hz
    have hl60 := small_len' hsm
    refine ⟨L, ⟨hl, hL, by omega⟩, ?_⟩
    cbv
    split <;> rename_i hz <;> (try simp only [List.length_replicate, Int.zero_tmod, toIs_ii, ii_len, Int.zero_tdiv, w0, hA, nE, shl, shr, std, zE32, zE64, nc, nth_rd', i64w, u32_wrap, p32, p31, p63, w6432, toIs_len, set_toIs, repl_toIs, app_toIs, tos1, tos0, p1, take_toIs, drop_toIs, ieq_iff, ieq_iff', ilt_iff, ilt_iff', ile_iff, ile_iff', gt_iff_lt, ge_iff_le, Bool.not_eq_true', Bool.not_eq_false', List.drop_zero, Nat.sub_zero] at hz) <;> cbv
    · subst hA; exact h
    have hr : rightB k L = true := by simpa [notF] using hz
    obtain ⟨kn, hkn, hkt, hk1, hk2, hlen⟩ := right_nat hr
    rw [hkn] at hr
    refine ⟨by rw [au hA]; exact hx, ?_⟩
    cbv
    split <;> rename_i hz <;> (try simp only [List.length_replicate, Int.zero_tmod, toIs_ii, ii_len, Int.zero_tdiv, w0, hA, nE, shl, shr, std, zE32, zE64, nc, nth_rd', i64w, u32_wrap, p32, p31, p63, w6432, toIs_len, set_toIs, repl_toIs, app_toIs, tos1, tos0, p1, take_toIs, drop_toIs, ieq_iff, ieq_iff', ilt_iff, ilt_iff', ile_iff, ile_iff', gt_iff_lt, ge_iff_le, Bool.not_eq_true', Bool.not_eq_false', List.drop_zero, Nat.sub_zero] at hz) <;> cbv
    · subst hA; exact h
    have hcx : chkIt ⟨kk, u, wt⟩ = 0 := by
      subst hA
      simpa [std] using hz
    refine loop_intro hA [(0, .keep), (1, .keep), (5, .box), (29, .keep), (30, .keep), (31, .keep)] (fun n s => ∃ w, s = st [(0, .int .i64 k), (1, .row (.agg [.str, .int .u64, .int .u64]) l), (5, .ptr 5 0 0), (29, .row (.agg [.str, .int .u64, .int .u64]) l), (30, .int .i64 (A _ fun _ => (l.length : Int))), (31, .int .i64 w)] [(5, ⟨0, true, .box [.str kk, .int .u64 u, .int .u64 wt]⟩)] ∧
      ∃ j : Nat, w = j ∧ n + j = L.length ∧ ∀ t, t < j → (gi L t).key ≠ kk) L.length ?_ ?_
    · cbv
      (iterate 1 apply Exists.intro); refine ⟨?_, ?_⟩; cbv
      exact ⟨0, rfl, rfl, fun t ht => absurd ht (Nat.not_lt_zero t)⟩
    · rintro n s ⟨w, rfl, j, hw, hn, hky⟩
      have hw0 : 0 ≤ w ∧ w ≤ l.length := by (try simp only [nc] at *); omega
      obtain ⟨a1, a2, a3⟩ := rdit hl (toN hw)
      cbv
      split <;> rename_i hz3 <;> (try simp only [List.length_replicate, Int.zero_tmod, toIs_ii, ii_len, Int.zero_tdiv, w0, hA, nE, shl, shr, std, zE32, zE64, nc, nth_rd', i64w, u32_wrap, p32, p31, p63, w6432, toIs_len, set_toIs, repl_toIs, app_toIs, tos1, tos0, p1, take_toIs, drop_toIs, ieq_iff, ieq_iff', ilt_iff, ilt_iff', ile_iff, ile_iff', gt_iff_lt, ge_iff_le, Bool.not_eq_true', Bool.not_eq_false', List.drop_zero, Nat.sub_zero] at hz3) <;> cbv
      · have hjl : j < L.length := by (try simp only [nc] at *); omega
        have hok : It.ok ⟨((G.nth l w.toNat).cell 0).toS, ((G.nth l w.toNat).cell 1).toI, ((G.nth l w.toNat).cell 2).toI⟩ := by rw [a1, a2, a3]; exact hL _ (gi_mem hjl)
        have hcj : chkIt (gi L j) = 0 := ((right_gs hL).1 hr).2.2.1 _ (gi_mem hjl)
        have hch : chkIt ⟨((G.nth l w.toNat).cell 0).toS, ((G.nth l w.toNat).cell 1).toI, ((G.nth l w.toNat).cell 2).toI⟩ = 0 := by rw [a1, a2, a3]; exact hcj
        refine ⟨by subst hA; exact ⟨hw0.1, by rw [toN hw, hll]; exact hjl⟩, ?_⟩
        cbv
        refine ⟨L, ⟨hl, hL, by subst hA; exact hok, by omega⟩, fun hf => ?_, fun _ hf => ?_, fun _ _ M hM => ?_⟩
        · rw [hkn, hr] at hf; cases hf
        · exfalso; subst hA; exact hf hch
        · have e : M = L := by
            subst hA
            have hM : addR k.toNat L ⟨((G.nth l w.toNat).cell 0).toS, ((G.nth l w.toNat).cell 1).toI, ((G.nth l w.toNat).cell 2).toI⟩ M := hM
            rw [a1, a2, a3, hkt] at hM
            exact stays1 hL hr hjl hM
          generalize hm : its M = m
          cbv
          (split <;> rename_i hz <;> first | (exfalso; subst hA; revert hz; decide) | cbv)
          refine ⟨M, L, ⟨hm.symm, hl, by rw [e]; omega⟩, ?_⟩
          cbv
          split <;> rename_i hz4 <;> (try simp only [List.length_replicate, Int.zero_tmod, toIs_ii, ii_len, Int.zero_tdiv, w0, hA, nE, shl, shr, std, zE32, zE64, nc, nth_rd', i64w, u32_wrap, p32, p31, p63, w6432, toIs_len, set_toIs, repl_toIs, app_toIs, tos1, tos0, p1, take_toIs, drop_toIs, ieq_iff, ieq_iff', ilt_iff, ilt_iff', ile_iff, ile_iff', gt_iff_lt, ge_iff_le, Bool.not_eq_true', Bool.not_eq_false', List.drop_zero, Nat.sub_zero] at hz4) <;> cbv
          · exfalso
            subst hA
            (try simp only [std] at hz4)
            rw [e] at hz4
            simp [notF, std] at hz4
          split <;> rename_i hz5 <;> (try simp only [List.length_replicate, Int.zero_tmod, toIs_ii, ii_len, Int.zero_tdiv, w0, hA, nE, shl, shr, std, zE32, zE64, nc, nth_rd', i64w, u32_wrap, p32, p31, p63, w6432, toIs_len, set_toIs, repl_toIs, app_toIs, tos1, tos0, p1, take_toIs, drop_toIs, ieq_iff, ieq_iff', ilt_iff, ilt_iff', ile_iff, ile_iff', gt_iff_lt, ge_iff_le, Bool.not_eq_true', Bool.not_eq_false', List.drop_zero, Nat.sub_zero] at hz5) <;> cbv
          · subst hA; exact h
          · refine ⟨n - 1, by omega, ?_⟩
            cbv
            (iterate 1 apply Exists.intro); refine ⟨?_, ?_⟩; cbv
            subst hA
            refine ⟨j + 1, wsucc hw (by omega), by omega, fun t ht => ?_⟩
            by_cases e2 : t = j
            · subst e2
              simp only [std, a1, seq] at hz5
              simpa using hz5
            · exact hky t (by omega)
      · have hjl : j = L.length := by (try simp only [nc] at *); omega
        subst hjl
        refine ⟨L, ⟨hl, hL, by subst hA; exact hx, by omega⟩, fun hf => ?_, fun _ hf => ?_, fun _ _ M hM => ?_⟩
        · rw [hkn, hr] at hf; cases hf
        · exact absurd hcx hf
        · rw [hkt] at hM
          have e := stays2 hL hr hx hcx hky hM
          have hMl := (addR_ok hM hL hx).2
          have hwk : IntKind.i64.wrap (k + 1) = ((kn + 1 : Nat) : Int) := wsucc hkn (by omega)
          generalize hm : its M = m
          cbv
          split <;> rename_i hz4 <;> (try simp only [List.length_replicate, Int.zero_tmod, toIs_ii, ii_len, Int.zero_tdiv, w0, hA, nE, shl, shr, std, zE32, zE64, nc, nth_rd', i64w, u32_wrap, p32, p31, p63, w6432, toIs_len, set_toIs, repl_toIs, app_toIs, tos1, tos0, p1, take_toIs, drop_toIs, ieq_iff, ieq_iff', ilt_iff, ilt_iff', ile_iff, ile_iff', gt_iff_lt, ge_iff_le, Bool.not_eq_true', Bool.not_eq_false', List.drop_zero, Nat.sub_zero] at hz4) <;> cbv
          · have hlk : L.length = kn + 1 := by rw [← i64w, hwk, hll] at hz4; (try simp only [nc] at *); omega
            obtain ⟨b1, b2, b3⟩ := rdit hl hkt
            have hkl : kn < L.length := by omega
            refine ⟨by subst hA; exact ⟨by omega, by rw [hkt, hll]; exact hkl⟩, by subst hA; simp only [std, b1, b2, b3]; exact ⟨hx, hL _ (gi_mem hkl)⟩, ?_⟩
            cbv
            (split <;> rename_i hz <;> first | (exfalso; subst hA; revert hz; decide) | cbv)
            refine ⟨M, L, ⟨hm.symm, hl, by omega⟩, ?_⟩
            cbv
            split <;> rename_i hz5 <;> cbv
            · subst hA; exact h
            · exfalso
              subst hA
              simp only [std, b1, b2, b3, it_eta, ile] at hz5
              have e' : M = L ↔ 0 ≤ cmpIt ⟨kk, u, wt⟩ (gi L kn) := by rw [e]; exact ⟨fun h => h.2, fun h => ⟨hlk, h⟩⟩
              by_cases g : M = L
              · have := e'.1 g
                simp [g, this] at hz5
              · have := fun h => g (e'.2 h)
                simp [g] at hz5
                exact this hz5
          · have hlk : ¬ L.length = kn + 1 := by rw [← i64w, hwk, hll] at hz4; (try simp only [nc] at *); omega
            (split <;> rename_i hz <;> first | (exfalso; subst hA; revert hz; decide) | cbv)
            refine ⟨M, L, ⟨hm.symm, hl, by omega⟩, ?_⟩
            cbv
            split <;> rename_i hz5 <;> cbv
            · subst hA; exact h
            · exfalso
              subst hA
              simp only [std] at hz5
              have e' : ¬ M = L := fun h => hlk (e.1 h).1
              rw [decide_eq_false e'] at hz5
              simp at hz5
  · exact h.elim
end Go.Proofs.YtmndbhgbngkakaaDoor.Z
