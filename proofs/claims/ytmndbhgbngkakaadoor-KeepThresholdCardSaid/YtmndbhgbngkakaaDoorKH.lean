/- KeepThreshold, walked. No condition. -/
import Derived.Test.YtmndbhgbngkakaaDoorKG
import Derived.Test.YtmndbhgbngkakaaDoorU8
namespace Go.Proofs.YtmndbhgbngkakaaDoor.Z
open Go Go.RowKit Go.Proofs.YtmndbhgbngkakaaDoor.E Go.Proofs.YtmndbhgbngkakaaDoor.G Go.Proofs.YtmndbhgbngkakaaDoor.K Go.Proofs.YtmndbhgbngkakaaDoor.F Go.Proofs.YtmndbhgbngkakaaDoor.M Go.Proofs.YtmndbhgbngkakaaDoor.R
open Go.Proofs.YtmndbhgbngkakaaDoorW.PrintWords hiding rd
set_option linter.all false

set_option maxRecDepth 100000
set_option maxHeartbeats 4000000
theorem rank_le {x y : It} (hx : x.ok) (hy : y.ok) (cx : chkIt x = 0) (cy : chkIt y = 0) (h : cmpIt x y ≤ 0) : ∃ a b c d, Rt (rkN x) (rkD x) a b ∧ Rt (rkN y) (rkD y) c d ∧ Fits a b c d ∧ cmpI (a * d) (c * b) ≤ 0 := by
  obtain ⟨a1, b1, g1, p1, p2, p3, p4, p5, p6, r1⟩ := rk_rt (k := x.key) (u := x.u) (w := x.w) hx cx
  obtain ⟨a2, b2, g2, q1, q2, q3, q4, q5, q6, r2⟩ := rk_rt (k := y.key) (u := y.u) (w := y.w) hy cy
  refine ⟨a1, b1, a2, b2, r1, r2, fits64 p5 p6 q5 q6, ?_⟩
  rw [cmpI_scale p1 q1, ← p3, ← p4, ← q3, ← q4, ordI_le]
  rcases cmp_le.1 h with h | ⟨h, _⟩
  · exact Int.le_of_lt h
  · exact Int.le_of_eq h
theorem upd_mem {S T : List Gi} {y : Gi} (h : Upd cG gk S y T) : ∀ z ∈ T, z = y ∨ z ∈ S := by
  rcases h with ⟨_, rfl⟩ | ⟨A, w, B, rfl, _, ⟨_, rfl⟩ | ⟨_, rfl⟩⟩
  · exact fun z hz => insL_mem.1 hz
  · exact fun z hz => .inr hz
  · intro z hz
    rcases insL_mem.1 hz with h | h
    · exact .inl h
    · refine .inr ?_
      simp only [List.mem_append, List.mem_cons] at h ⊢
      rcases h with h | h
      · exact .inl h
      · exact .inr (.inr h)
theorem thr_law {k : Nat} {L : List It} {x : It} {M : List It} (hL : ∀ x ∈ L, x.ok) (hk : 1 ≤ k ∧ k ≤ 1024) (hr : rightB k L = true) (hl : L.length = k + 1) (hx : x.ok) (hc : chkIt x = 0) (h : addR k L x M) :
    rightB k M = true ∧ M.length = k + 1 ∧ cmpIt (gi M k) (gi L k) ≤ 0 ∧ (∀ x ∈ M, x.ok) := by
  have hcl := ((right_gs hL).1 hr).2.2.1
  obtain ⟨S, T, y, rfl, rfl, h4, h5, h6, hT, rfl⟩ := right_add hL hr hx hc h
  rw [gs_len] at hl
  obtain ⟨k1, k2⟩ := hT.keeps cG_pre h4 h5
  obtain ⟨f1, f2⟩ := full_le cG_pre kc_it h4 h5 hT (List.getElem?_eq_getElem (by omega : k < S.length)) hl
  refine ⟨right_take hk (fun z hz => ?_) k1 k2, by rw [gs_len, List.length_take]; omega, ?_, gs_ok⟩
  · rcases upd_mem hT z hz with rfl | hz
    · exact hc
    · exact hcl _ (mem_gs.2 hz)
  · have ht : k < (T.take (k + 1)).length := by rw [List.length_take]; omega
    rw [gi_g ht, gi_g (by omega)]
    exact f1 _ (List.getElem_mem ht)
theorem samp_law {k : Nat} {L : List It} (hL : ∀ x ∈ L, x.ok) (hr : rightB k L = true) {i j : Nat} (hij : i ≤ j) (hj : j < L.length) : cmpIt (gi L i) (gi L j) ≤ 0 := by
  obtain ⟨h1, h2, h3, S, rfl, h4, h5⟩ := (right_gs hL).1 hr
  rw [gs_len] at hj
  rw [gi_g hj, gi_g (by omega)]
  exact srtd_get cG_pre h4 hij (List.getElem?_eq_getElem (by omega)) (List.getElem?_eq_getElem hj)
theorem kThresh_ok : SpecOk EV 7 ⟨false, kStaysRun⟩ := by
  refine spec_go (.cons (f := 8) small_ok (.cons (f := 9) awake13_ok (.cons (f := 14) kright_ok (.cons (f := 11) check_ok (.cons (f := 21) kThr_ok (.cons (f := 17) kAdd_ok (.cons (f := 22) kSample_ok (.cons (f := 23) rank_ok (.cons (f := 24) ratCmp_ok (.nil _)))))))))) (fn := Tryd.f7) rfl rfl Tryd.func7 rfl false [] _ ?_
  intro A hA args q h
  unfold kStaysRun at h
  split at h
  · rename_i k l kk u wt
    obtain ⟨L, ⟨hl, hL, hx⟩, h⟩ := h
    have hll : l.length = L.length := by rw [hl, its_len]
    refine ⟨Nat.le_of_ble_eq_true rfl, ?_⟩
    cbv
    refine ⟨L, ⟨hl, hL⟩, ?_⟩
    cbv
    split <;> rename_i hz <;> (try simp only [hA, shl, shr, std, nc, wd0, wd1, wd2, wd3] at hz) <;> cbv
    · subst hA; exact h
    have hsm : smallB L = true := by simpa [notF] using hz
    have hl60 := small_len' hsm
    refine ⟨L, ⟨hl, hL, by omega⟩, ?_⟩
    cbv
    split <;> rename_i hz <;> (try simp only [hA, shl, shr, std, nc, wd0, wd1, wd2, wd3] at hz) <;> cbv
    · subst hA; exact h
    have hr : rightB k L = true := by simpa [notF] using hz
    have hr0 := hr
    obtain ⟨kn, hkn, hkt, hk1, hk2, hlen⟩ := right_nat hr
    rw [hkn] at hr
    refine ⟨by rw [au hA]; exact hx, ?_⟩
    cbv
    split <;> rename_i hz <;> (try simp only [hA, shl, shr, std, nc, wd0, wd1, wd2, wd3] at hz) <;> cbv
    · subst hA; exact h
    have hcx : chkIt ⟨kk, u, wt⟩ = 0 := by
      subst hA
      simpa [std] using hz
    refine ⟨L, ⟨hl, hL, by omega⟩, fun hno => ?_, fun _ hfull => ?_⟩
    · have hnl : ¬ k < (L.length : Int) := fun h => hno ⟨hr0, h⟩
      cbv
      refine ⟨L, ⟨hl, hL, by subst hA; exact hx, by omega⟩, fun hf => ?_, fun _ hf => ?_, fun _ _ M hM => ?_⟩
      · rw [hr0] at hf; cases hf
      · exact absurd hcx hf
      · have hMo := addR_ok hM hL hx
        generalize hm : its M = m
        cbv
        refine ⟨M, ⟨hm.symm, hMo.1, by omega⟩, fun _ => ?_, fun _ _ => ?_⟩
        · cbv
          (split <;> rename_i hz <;> first | (exfalso; subst hA; revert hz; decide) | cbv)
          split <;> rename_i hz5 <;> (try simp only [hA, shl, shr, std, nc, wd0, wd1, wd2, wd3] at hz5) <;> cbv
          · subst hA; exact h
          · exfalso; (try simp only [nc] at *); omega
        · generalize rkN (gi M k.toNat) = un
          generalize rkD (gi M k.toNat) = ud
          cbv
          (split <;> rename_i hz <;> first | (exfalso; subst hA; revert hz; decide) | cbv)
          split <;> rename_i hz5 <;> (try simp only [hA, shl, shr, std, nc, wd0, wd1, wd2, wd3] at hz5) <;> cbv
          · subst hA; exact h
          · exfalso; (try simp only [nc] at *); omega
    · have hlk : L.length = kn + 1 := by (try simp only [nc] at *); omega
      rw [hkt]
      generalize htn : rkN (gi L kn) = tn
      generalize htd : rkD (gi L kn) = td
      cbv
      refine ⟨L, ⟨hl, hL, by subst hA; exact hx, by omega⟩, fun hf => ?_, fun _ hf => ?_, fun _ _ M hM => ?_⟩
      · rw [hr0] at hf; cases hf
      · exact absurd hcx hf
      · rw [hkt] at hM
        obtain ⟨t1, t2, t3, t4⟩ := thr_law hL ⟨hk2, hk1⟩ hr hlk hx hcx hM
        generalize hm : its M = m
        cbv
        refine ⟨M, ⟨hm.symm, t4, by omega⟩, fun hno => absurd ⟨by rw [hkn]; exact t1, by rw [hkn, t2]; exact Int.ofNat_lt.2 (Nat.lt_succ_self _)⟩ hno, fun _ _ => ?_⟩
        rw [hkt]
        generalize hun : rkN (gi M kn) = un
        generalize hud : rkD (gi M kn) = ud
        cbv
        (split <;> rename_i hz <;> first | (exfalso; subst hA; revert hz; decide) | cbv)
        refine ⟨L, ⟨hl, hL, by omega⟩, fun hf => ?_, fun _ => ?_⟩
        · rw [hr0] at hf; cases hf
        · rw [hkt]
          generalize hzl : its (L.take kn) = z
          have hzz : z.length = kn := by rw [← hzl, its_len, List.length_take]; omega
          have hcl := ((right_gs hL).1 hr).2.2.1
          have hclM := ((right_gs t4).1 t1).2.2.1
          cbv
          refine loop_intro hA [(7, .box), (11, .box), (12, .keep), (66, .keep), (67, .keep), (68, .keep)] (fun n s => ∃ w, s = st [(7, .ptr 7 0 0), (11, .ptr 11 0 0), (12, .bool true), (66, .row (.agg [.str, .int .u64, .int .u64]) z), (67, .int .i64 (A _ fun _ => (z.length : Int))), (68, .int .i64 w)] [(7, ⟨0, true, .box [.row (.int .u32) tn, .row (.int .u32) td]⟩), (11, ⟨0, true, .box [.row (.int .u32) un, .row (.int .u32) ud]⟩)] ∧
            ∃ j : Nat, w = j ∧ n + j = kn) kn ?_ ?_
          · cbv
            (iterate 1 apply Exists.intro); refine ⟨?_, ?_⟩; cbv
            exact ⟨0, rfl, rfl⟩
          · rintro n s ⟨w, rfl, j, hw, hn⟩
            have hw0 : 0 ≤ w ∧ w ≤ z.length := by (try simp only [nc] at *); omega
            obtain ⟨a1, a2, a3⟩ := rdit hzl.symm (toN hw)
            cbv
            split <;> rename_i hz3 <;> (try simp only [hA, shl, shr, std, nc, wd0, wd1, wd2, wd3] at hz3) <;> cbv
            · have hjl : j < kn := by (try simp only [nc] at *); omega
              have hgj : gi (L.take kn) j = gi L j := by unfold gi; rw [List.getD_eq_getElem?_getD, List.getD_eq_getElem?_getD, List.getElem?_take_of_lt hjl]
              rw [hgj] at a1 a2 a3
              have hyl : gi L j ∈ L := gi_mem (by omega)
              have hok : It.ok ⟨((G.nth z w.toNat).cell 0).toS, ((G.nth z w.toNat).cell 1).toI, ((G.nth z w.toNat).cell 2).toI⟩ := by rw [a1, a2, a3]; exact hL _ hyl
              have hit : (⟨((G.nth z w.toNat).cell 0).toS, ((G.nth z w.toNat).cell 1).toI, ((G.nth z w.toNat).cell 2).toI⟩ : It) = gi L j := by rw [a1, a2, a3]
              refine ⟨by subst hA; exact ⟨hw0.1, by rw [toN hw, hzz]; exact hjl⟩, by rw [au hA]; subst hA; exact hok, ?_⟩
              cbv
              obtain ⟨a, b, c, d, r1, r2, r3, r4⟩ := rank_le (hL _ hyl) (hL _ (gi_mem (by omega))) (hcl _ hyl) (hcl _ (gi_mem (by omega))) (samp_law hL hr (i := j) (j := kn) (by omega) (by omega))
              refine ⟨a, b, c, d, ⟨by subst hA; simp only [std, hit]; exact r1, by rw [← htn, ← htd]; exact r2⟩, ?_⟩
              cbv
              split <;> rename_i hz4 <;> (try simp only [hA, shl, shr, std, nc, wd0, wd1, wd2, wd3] at hz4) <;> cbv
              · exfalso; exact hz4 (if_pos r3)
              split <;> rename_i hz5 <;> (try simp only [hA, shl, shr, std, nc, wd0, wd1, wd2, wd3] at hz5) <;> cbv
              · exfalso; rw [if_pos r3] at hz5; omega
              refine ⟨n - 1, by omega, ?_⟩
              cbv
              (iterate 1 apply Exists.intro); refine ⟨?_, ?_⟩; cbv
              subst hA
              exact ⟨j + 1, wsucc hw (by omega), by omega⟩
            · obtain ⟨a, b, c, d, r1, r2, r3, r4⟩ := rank_le (t4 _ (gi_mem (L := M) (n := kn) (by omega))) (hL _ (gi_mem (by omega))) (hclM _ (gi_mem (by omega))) (hcl _ (gi_mem (by omega))) t3
              refine ⟨a, b, c, d, ⟨by rw [← hun, ← hud]; exact r1, by rw [← htn, ← htd]; exact r2⟩, ?_⟩
              cbv
              split <;> rename_i hz4 <;> (try simp only [hA, shl, shr, std, nc, wd0, wd1, wd2, wd3] at hz4) <;> cbv
              · split <;> rename_i hz5 <;> (try simp only [hA, shl, shr, std, nc, wd0, wd1, wd2, wd3] at hz5) <;> cbv
                · subst hA; exact h
                · exfalso; rw [if_pos r3] at hz5; exact hz5 r4
              · exfalso; exact hz4 (if_pos r3)
  · exact h.elim
end Go.Proofs.YtmndbhgbngkakaaDoor.Z
