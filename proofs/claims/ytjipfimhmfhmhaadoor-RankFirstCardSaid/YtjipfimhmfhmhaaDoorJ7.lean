/- Items are sorted: SortStableFunc. No condition. -/
import Derived.Test.YtjipfimhmfhmhaaDoorJ6
namespace Go.Proofs.YtjipfimhmfhmhaaDoor.Z
open Go Go.RowKit Go.Proofs.YtjipfimhmfhmhaaDoor.E Go.Proofs.YtjipfimhmfhmhaaDoor.G Go.Proofs.YtjipfimhmfhmhaaDoor.K Go.Proofs.YtjipfimhmfhmhaaDoor.F Go.Proofs.YtjipfimhmfhmhaaDoor.M Go.Proofs.YtjipfimhmfhmhaaDoor.R
open Go.Proofs.YtjipfimhmfhmhaaDoorW.PrintWords hiding rd
set_option linter.all false

set_option maxRecDepth 100000
set_option maxHeartbeats 4000000
theorem sym_zero : SpecOk EV 96 ⟨true, symRun 0⟩ := by
  refine spec_go (.nil _) (fn := Tryd.f96) rfl rfl Tryd.func96 rfl true [] _ ?_
  intro A hA args q h
  unfold symRun at h
  split at h
  · obtain ⟨P, X, Y, S, ⟨hl, ha, hm, hb, hX, hY, hlen, sX, sY, hN⟩, h⟩ := h
    exfalso; omega
  · exact h.elim
theorem sym_ok : ∀ N, SpecOk EV 96 ⟨true, symRun N⟩
  | 0 => sym_zero
  | N + 1 => sym_step (sym_ok N)
theorem wdbl {a : Int} {p : Nat} (h : a = p) (hk : p < 1152921504606846976) : IntKind.i64.wrap (2 * a) = ((p + p : Nat) : Int) := by rw [i64w, h]; unfold wrap64; omega
theorem wdbl' {a : Int} {p : Nat} (h : a = p) (hk : p < 1152921504606846976) : IntKind.i64.wrap (a * 2) = ((p + p : Nat) : Int) := by rw [i64w, h]; unfold wrap64; omega
theorem repl_s (k n : Nat) : List.replicate (k + 1) n = List.replicate k n ++ [n] := List.replicate_succ'
/-- One more block is in order. -/
theorem cut_more (p : List Nat) (n : Nat) (M : List Gi) (h : p.sum + n ≤ M.length) : ∃ P X S : List Gi, cut cG p M = P ++ X ++ S ∧ cut cG (p ++ [n]) M = P ++ srt cG X ++ S ∧ P.length = p.sum ∧ X.length = n ∧ P.length + X.length + S.length = M.length :=
  ⟨cutA cG p M, (M.drop p.sum).take n, (M.drop p.sum).drop n, cut_pre p M n, cut_one p n M, cutA_len p (by omega), by rw [List.length_take, List.length_drop]; omega, by
    simp only [cutA_len p (show p.sum ≤ M.length by omega), List.length_take, List.length_drop]; omega⟩
theorem cut_len (p : List Nat) (M : List Gi) (h : p.sum ≤ M.length) : (cut cG p M).length = M.length := by
  unfold cut
  rw [List.length_append, cutA_len p h, List.length_drop]; omega
theorem cut_two' (p q : List Nat) (x y : Nat) (M : List Gi) (h : p.sum + x + y ≤ M.length) : ∃ P X Y S : List Gi, cut cG (p ++ x :: y :: q) M = P ++ (X ++ (Y ++ S)) ∧ cut cG (p ++ (x + y) :: q) M = P ++ (srt cG (X ++ Y) ++ S) ∧ Srtd cG X ∧ Srtd cG Y ∧ P.length = p.sum ∧ X.length = x ∧ Y.length = y := by
  obtain ⟨X, Y, S, h1, h2, h3, h4, h5⟩ := cut_two cG_pre p q x y M
  obtain ⟨h6, h7⟩ := h5 h
  exact ⟨cutA cG p M, X, Y, S, by rw [h1]; simp, by rw [h2]; simp, h3, h4, cutA_len p (by omega), h6, h7⟩
theorem its_gs_len {L : List Gi} : (its (gs L)).length = L.length := by rw [its_len, gs_len]
def stRun (A : Lz) (args : List FV) (q : FV → FV → Prop) : Prop :=
  match args with
  | [.row (.agg [.str, .int .u64, .int .u64]) l, .int .i64 n, .fn 18 [] []] => ∃ M : List Gi, (l = its (gs M) ∧ n = M.length ∧ M.length < 288230376151711744) ∧
      q (.tup []) (.row (.agg [.str, .int .u64, .int .u64]) (A _ fun _ => its (gs (srt cG M))))
  | _ => False
theorem st_ok : SpecOk EV 79 ⟨true, stRun⟩ := by
  refine spec_go (.cons (f := 95) ins_ok (.cons (f := 96) (sym_ok 1152921504606846976) (.nil _))) (fn := Tryd.f79) rfl rfl Tryd.func79 rfl true [] _ ?_
  intro A hA args q h
  unfold stRun at h
  split at h
  · rename_i l nn
    obtain ⟨M, ⟨hl, hnn, hlen⟩, h⟩ := h
    refine ⟨Nat.le_of_ble_eq_true rfl, ?_⟩
    cbv
    refine loop_intro hA [(0, .own (.agg [.str, .int .u64, .int .u64])), (1, .keep), (2, .keep), (6, .keep), (7, .keep), (8, .keep)] (fun n s => ∃ o w w', s = st [(0, .own 0 0), (1, .int .i64 nn), (2, .fn 18 [] []), (6, .int .i64 20), (7, .int .i64 w), (8, .int .i64 w')] [(0, ⟨0, true, .arr (.agg [.str, .int .u64, .int .u64]) false o⟩)] ∧
      ∃ k : Nat, w = ((k * 20 : Nat) : Int) ∧ w' = ((k * 20 + 20 : Nat) : Int) ∧ k * 20 ≤ M.length ∧ n = M.length - k * 20 ∧ o = its (gs (cut cG (List.replicate k 20) M))) M.length ?_ ?_
    · cbv
      (iterate 3 apply Exists.intro); refine ⟨?_, ?_⟩; cbv
      exact ⟨0, rfl, rfl, by omega, by omega, hl⟩
    · rintro n s ⟨o, w, w', rfl, k, hw, hw', hk, hn, ho⟩
      cbv
      split <;> rename_i hz <;> (try simp only [List.length_replicate, Int.zero_tmod, toIs_ii, ii_len, Int.zero_tdiv, w0, hA, nE, shl, shr, std, zE32, zE64, nc, nth_rd', i64w, u32_wrap, p32, p31, p63, w6432, toIs_len, set_toIs, repl_toIs, app_toIs, tos1, tos0, p1, take_toIs, drop_toIs, ieq_iff, ieq_iff', ilt_iff, ilt_iff', ile_iff, ile_iff', gt_iff_lt, ge_iff_le, Bool.not_eq_true', Bool.not_eq_false', List.drop_zero, Nat.sub_zero] at hz) <;> cbv
      · have hkM : k * 20 + 20 ≤ M.length := by (try simp only [nc] at *); omega
        obtain ⟨P, X, S, c1, c2, l1, l2, l3⟩ := cut_more (List.replicate k 20) 20 M (by rw [sum_repl]; exact hkM)
        rw [sum_repl] at l1
        have ew : IntKind.i64.wrap (w' + 20) = ((k * 20 + 20 + 20 : Nat) : Int) := wadd (k := 20) hw' rfl (by omega)
        refine ⟨P, X, S, ⟨by rw [ho, c1], by rw [hw, l1], by rw [hw', l1, l2], by rw [ho, its_gs_len, c1]; simp only [List.length_append]; omega⟩, ?_⟩
        cbv
        refine ⟨M.length - (k + 1) * 20, by omega, ?_⟩
        cbv
        (iterate 3 apply Exists.intro); refine ⟨?_, ?_⟩; cbv
        subst hA
        refine ⟨k + 1, hw'.trans (by congr 1; omega), ew.trans (by congr 1; omega), by omega, rfl, ?_⟩
        rw [repl_s, c2]; rfl
      · have hkM : M.length < k * 20 + 20 := by (try simp only [nc] at *); omega
        obtain ⟨P, X, S, c1, c2, l1, l2, l3⟩ := cut_more (List.replicate k 20) (M.length - k * 20) M (by rw [sum_repl]; omega)
        rw [sum_repl] at l1
        refine ⟨P, X, S, ⟨by rw [ho, c1], by rw [hw, l1], by rw [hnn, l1, l2]; congr 1; omega, by rw [ho, its_gs_len, c1]; simp only [List.length_append]; omega⟩, ?_⟩
        cbv
        refine loop_intro hA [(0, .own (.agg [.str, .int .u64, .int .u64])), (1, .keep), (2, .keep), (6, .keep)] (fun n s => ∃ o w, s = st [(0, .own 0 0), (1, .int .i64 nn), (2, .fn 18 [] []), (6, .int .i64 w)] [(0, ⟨0, true, .arr (.agg [.str, .int .u64, .int .u64]) false o⟩)] ∧
          ∃ j B t : Nat, w = (B : Int) ∧ M.length = j * B + t ∧ t < B ∧ B < 1152921504606846976 ∧ n = M.length - B ∧ o = its (gs (cut cG (List.replicate j B ++ [t]) M))) (M.length - 20) ?_ ?_
        · cbv
          (iterate 2 apply Exists.intro); refine ⟨?_, ?_⟩; cbv
          subst hA
          exact ⟨k, 20, M.length - k * 20, rfl, by omega, by omega, by omega, rfl, by rw [c2]; rfl⟩
        · rintro n2 s ⟨o2, w2, rfl, j, B, t, hB, hM, ht, hBm, hn2, ho2⟩
          cbv
          split <;> rename_i hz <;> (try simp only [List.length_replicate, Int.zero_tmod, toIs_ii, ii_len, Int.zero_tdiv, w0, hA, nE, shl, shr, std, zE32, zE64, nc, nth_rd', i64w, u32_wrap, p32, p31, p63, w6432, toIs_len, set_toIs, repl_toIs, app_toIs, tos1, tos0, p1, take_toIs, drop_toIs, ieq_iff, ieq_iff', ilt_iff, ilt_iff', ile_iff, ile_iff', gt_iff_lt, ge_iff_le, Bool.not_eq_true', Bool.not_eq_false', List.drop_zero, Nat.sub_zero] at hz) <;> cbv
          · have hBM : B < M.length := by (try simp only [nc] at *); omega
            have ed := wdbl hB hBm
            refine loop_intro hA [(0, .own (.agg [.str, .int .u64, .int .u64])), (1, .keep), (2, .keep), (6, .keep), (7, .keep), (8, .keep)] (fun n s => ∃ o w w', s = st [(0, .own 0 0), (1, .int .i64 nn), (2, .fn 18 [] []), (6, .int .i64 w2), (7, .int .i64 w), (8, .int .i64 w')] [(0, ⟨0, true, .arr (.agg [.str, .int .u64, .int .u64]) false o⟩)] ∧
              ∃ k : Nat, w = ((k * (B + B) : Nat) : Int) ∧ w' = ((k * (B + B) + (B + B) : Nat) : Int) ∧ M.length = k * (B + B) + n * B + t ∧ o = its (gs (cut cG (List.replicate k (B + B) ++ (List.replicate n B ++ [t])) M))) j ?_ ?_
            · cbv
              (iterate 3 apply Exists.intro); refine ⟨?_, ?_⟩; cbv
              subst hA
              exact ⟨0, by simp, by rw [Nat.zero_mul, Nat.zero_add]; exact ed, by omega, ho2⟩
            · rintro n3 s ⟨o3, w3, w3', rfl, k3, hw3, hw3', hM3, ho3⟩
              cbv
              split <;> rename_i hz <;> (try simp only [List.length_replicate, Int.zero_tmod, toIs_ii, ii_len, Int.zero_tdiv, w0, hA, nE, shl, shr, std, zE32, zE64, nc, nth_rd', i64w, u32_wrap, p32, p31, p63, w6432, toIs_len, set_toIs, repl_toIs, app_toIs, tos1, tos0, p1, take_toIs, drop_toIs, ieq_iff, ieq_iff', ilt_iff, ilt_iff', ile_iff, ile_iff', gt_iff_lt, ge_iff_le, Bool.not_eq_true', Bool.not_eq_false', List.drop_zero, Nat.sub_zero] at hz) <;> cbv
              · have hkM : k3 * (B + B) + (B + B) ≤ M.length := by (try simp only [nc] at *); omega
                obtain ⟨n3, rfl⟩ : ∃ n', n3 = n' + 2 := by
                  rcases n3 with _ | _ | n3
                  · omega
                  · omega
                  · exact ⟨n3, rfl⟩
                obtain ⟨P, X, Y, S, c1, c2, s1, s2, l1, l2, l3⟩ := cut_two' (List.replicate k3 (B + B)) (List.replicate n3 B ++ [t]) B B M (by rw [sum_repl]; omega)
                rw [sum_repl] at l1
                have hl3 : o3.length = M.length := by rw [ho3, its_gs_len, cut_len]; simp [sum_repl]; omega
                have hPS : P.length + X.length + Y.length + S.length = M.length := by
                  have := congrArg List.length c1
                  rw [cut_len _ _ (by simp [sum_repl, Nat.add_mul] at hM3 ⊢; omega)] at this
                  simp only [List.length_append] at this; omega
                have e1 : IntKind.i64.wrap (w3 + w2) = ((k3 * (B + B) + B : Nat) : Int) := wadd hw3 hB (by omega)
                have e2 : IntKind.i64.wrap (w3' + IntKind.i64.wrap (2 * w2)) = ((k3 * (B + B) + (B + B) + (B + B) : Nat) : Int) := wadd hw3' ed (by omega)
                refine ⟨P, X, Y, S, ⟨?_, by rw [hw3, l1], ?_, by rw [hw3', l1, l2, l3]; congr 1; omega, by omega, by omega, by omega, s1, s2, by omega⟩, ?_⟩
                · rw [ho3, ← c1]; rfl
                · rw [hA]; exact e1.trans (by rw [l1, l2])
                · cbv
                  refine ⟨n3, by omega, ?_⟩
                  cbv
                  (iterate 3 apply Exists.intro); refine ⟨?_, ?_⟩; cbv
                  subst hA
                  refine ⟨k3 + 1, hw3'.trans (by congr 1; rw [Nat.succ_mul]), e2.trans (by congr 1; rw [Nat.succ_mul]), by have a1 : (k3 + 1) * (B + B) = k3 * (B + B) + (B + B) := Nat.succ_mul k3 (B + B); have a2 := Nat.add_mul n3 2 B; rw [hM3]; omega, ?_⟩
                  rw [repl_s, List.append_assoc]
                  show its (gs _) = its (gs (cut cG (List.replicate k3 (B + B) ++ (B + B) :: (List.replicate n3 B ++ [t])) M))
                  rw [c2]
              · have hkM : M.length < k3 * (B + B) + (B + B) := by (try simp only [nc] at *); omega
                have hn3 : n3 ≤ 1 := by
                  rcases n3 with _ | _ | n3
                  · omega
                  · omega
                  · exfalso; have a2 := Nat.add_mul n3 2 B; have a3 : (n3 + 1 + 1) * B = (n3 + 2) * B := rfl; omega
                have e1 : IntKind.i64.wrap (w3 + w2) = ((k3 * (B + B) + B : Nat) : Int) := wadd hw3 hB (by omega)
                have e1' : wrap64 (w3 + w2) = ((k3 * (B + B) + B : Nat) : Int) := (i64w _).symm.trans e1
                have e3 := wdbl' hB hBm
                split <;> rename_i hz <;> (try simp only [List.length_replicate, Int.zero_tmod, toIs_ii, ii_len, Int.zero_tdiv, w0, hA, nE, shl, shr, std, zE32, zE64, nc, nth_rd', i64w, u32_wrap, p32, p31, p63, w6432, toIs_len, set_toIs, repl_toIs, app_toIs, tos1, tos0, p1, take_toIs, drop_toIs, ieq_iff, ieq_iff', ilt_iff, ilt_iff', ile_iff, ile_iff', gt_iff_lt, ge_iff_le, Bool.not_eq_true', Bool.not_eq_false', List.drop_zero, Nat.sub_zero] at hz) <;> cbv
                · have hlt : k3 * (B + B) + B < M.length := by (try simp only [nc] at *); omega
                  have hn1 : n3 = 1 := by
                    rcases n3 with _ | n3
                    · omega
                    · omega
                  subst hn1
                  obtain ⟨P, X, Y, S, c1, c2, s1, s2, l1, l2, l3⟩ := cut_two' (List.replicate k3 (B + B)) [] B t M (by rw [sum_repl]; omega)
                  rw [sum_repl] at l1
                  have hPS : P.length + X.length + Y.length + S.length = M.length := by
                    have := congrArg List.length c1
                    rw [cut_len _ _ (by simp [sum_repl] at hM3 ⊢; omega)] at this
                    simp only [List.length_append] at this; omega
                  refine ⟨P, X, Y, S, ⟨?_, by rw [hw3, l1], ?_, by rw [hnn, l1, l2, l3]; congr 1; omega, by omega, by omega, by omega, s1, s2, by omega⟩, ?_⟩
                  · rw [ho3, ← c1]; rfl
                  · rw [hA]; exact e1.trans (by rw [l1, l2])
                  · cbv
                    refine ⟨M.length - (B + B), by omega, ?_⟩
                    cbv
                    (iterate 2 apply Exists.intro); refine ⟨?_, ?_⟩; cbv
                    subst hA
                    exact ⟨k3, B + B, B + t, e3, by omega, by omega, by omega, rfl, by rw [c2]; rfl⟩
                · have hge : M.length ≤ k3 * (B + B) + B := by (try simp only [nc] at *); omega
                  refine ⟨M.length - (B + B), by omega, ?_⟩
                  cbv
                  (iterate 2 apply Exists.intro); refine ⟨?_, ?_⟩; cbv
                  subst hA
                  rcases n3 with _ | n3
                  · exact ⟨k3, B + B, t, e3, by omega, by omega, by omega, rfl, ho3⟩
                  · obtain rfl : n3 = 0 := by omega
                    obtain rfl : t = 0 := by omega
                    refine ⟨k3, B + B, B, e3, by omega, by omega, by omega, rfl, ho3.trans ?_⟩
                    have := cut_zero (c := cG) (List.replicate k3 (B + B) ++ [B]) M (by simp [sum_repl]; omega)
                    rw [List.append_assoc] at this
                    rw [← this]; rfl
          · have hBM : M.length ≤ B := by (try simp only [nc] at *); omega
            subst hA
            refine fin2 h rfl ?_
            have key : cut cG (List.replicate j B ++ [t]) M = srt cG M := by
              rcases j with _ | j
              · exact cut_all M (by omega)
              · have hj : j = 0 := by
                  rcases j with _ | j
                  · rfl
                  · exfalso; rw [Nat.add_mul, Nat.add_mul] at hM; omega
                subst hj
                obtain rfl : t = 0 := by omega
                exact (cut_zero [B] M (by simp; omega)).trans (cut_all M hBM)
            rw [ho2, key]; rfl
  · exact h.elim
def ssfRun (A : Lz) (args : List FV) (q : FV → FV → Prop) : Prop :=
  match args with
  | [.row (.agg [.str, .int .u64, .int .u64]) l, .fn 18 [] []] => ∃ M : List Gi, (l = its (gs M) ∧ M.length < 288230376151711744) ∧
      q (.tup []) (.row (.agg [.str, .int .u64, .int .u64]) (A _ fun _ => its (gs (srt cG M))))
  | _ => False
theorem ssf_ok : SpecOk EV 55 ⟨true, ssfRun⟩ := by
  refine spec_go (.cons (f := 79) st_ok (.nil _)) (fn := Tryd.f55) rfl rfl Tryd.func55 rfl true [] _ ?_
  intro A hA args q h
  unfold ssfRun at h
  split at h
  · rename_i l
    obtain ⟨M, ⟨hl, hlen⟩, h⟩ := h
    refine ⟨Nat.le_of_ble_eq_true rfl, ?_⟩
    cbv
    refine ⟨M, ⟨hl, by rw [hA]; show (l.length : Int) = _; rw [hl, its_gs_len], hlen⟩, ?_⟩
    subst hA
    exact h
  · exact h.elim
end Go.Proofs.YtjipfimhmfhmhaaDoor.Z
