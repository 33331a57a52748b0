/- Items are sorted: one by one to its place. No condition. -/
import Derived.Test.YtjipfimhmfhmhaaDoorJ2
namespace Go.Proofs.YtjipfimhmfhmhaaDoor.Z
open Go Go.RowKit Go.Proofs.YtjipfimhmfhmhaaDoor.E Go.Proofs.YtjipfimhmfhmhaaDoor.G Go.Proofs.YtjipfimhmfhmhaaDoor.K Go.Proofs.YtjipfimhmfhmhaaDoor.F Go.Proofs.YtjipfimhmfhmhaaDoor.M Go.Proofs.YtjipfimhmfhmhaaDoor.R
open Go.Proofs.YtjipfimhmfhmhaaDoorW.PrintWords hiding rd
set_option linter.all false

set_option maxRecDepth 100000
set_option maxHeartbeats 4000000
def insRun (A : Lz) (args : List FV) (q : FV → FV → Prop) : Prop :=
  match args with
  | [.row (.agg [.str, .int .u64, .int .u64]) l, .int .i64 a, .int .i64 b, .fn 18 [] []] => ∃ P M S : List Gi, (l = its (gs (P ++ M ++ S)) ∧ a = P.length ∧ b = ((P.length + M.length : Nat) : Int) ∧ l.length < 4611686018427387904) ∧
      q (.tup []) (.row (.agg [.str, .int .u64, .int .u64]) (A _ fun _ => its (gs (P ++ srt cG M ++ S))))
  | _ => False
theorem ins_fin {P M S D X Y : List Gi} {x : Gi} {k : Nat} (hk : k < M.length) (hD : M.drop k = x :: D) (hXY : X ++ Y = srt cG (M.take k)) (hY : ∀ y ∈ Y, cG x y < 0) (hX : ∀ y ∈ X, cG y x ≤ 0) :
    (P ++ X) ++ x :: (Y ++ (D ++ S)) = P ++ (srt cG (M.take (k + 1)) ++ M.drop (k + 1)) ++ S := by
  have e1 : M.take (k + 1) = M.take k ++ [x] := by rw [List.take_add, hD]; rfl
  have e2 : M.drop (k + 1) = D := by rw [← List.drop_drop, hD]; rfl
  rw [e1, e2, ← srt_ins cG_pre hXY hY hX]
  simp
theorem ins_le {M X' Y : List Gi} {x z : Gi} (hXY : (X' ++ [z]) ++ Y = srt cG M) (hz : ¬ cmpIt x.1 z.1 < 0) : ∀ y ∈ X' ++ [z], cG y x ≤ 0 := by
  have hs := srt_srtd cG_pre M
  rw [← hXY] at hs
  obtain ⟨h1, _, _⟩ := srtd_append.1 hs
  obtain ⟨_, _, h2⟩ := srtd_append.1 h1
  have hzx : cG z x ≤ 0 := by rw [cG_pre.anti x z]; have : cG x z = cmpIt x.1 z.1 := rfl; omega
  intro y hy
  rcases List.mem_append.1 hy with hy | hy
  · exact cG_pre.trans (h2 y hy z (List.mem_singleton.2 rfl)) hzx
  · rw [List.mem_singleton.1 hy]; exact hzx
theorem ins_ok : SpecOk EV 95 ⟨true, insRun⟩ := by
  refine spec_go (.cons (f := 18) cmpIt_ok (.nil _)) (fn := Tryd.f95) rfl rfl Tryd.func95 rfl true [] _ ?_
  intro A hA args q h
  unfold insRun at h
  split at h
  · rename_i l a b
    obtain ⟨P, M, S, ⟨hl, ha, hb, hlen⟩, h⟩ := h
    have hlen' : P.length + M.length + S.length < 4611686018427387904 := by rw [hl, its_len, gs_len] at hlen; simp at hlen; omega
    refine ⟨Nat.le_of_ble_eq_true rfl, ?_⟩
    cbv
    refine loop_intro hA [(0, .own (.agg [.str, .int .u64, .int .u64])), (1, .keep), (2, .keep), (3, .keep), (8, .keep)] (fun n s => ∃ o w, s = st [(0, .own 0 0), (1, .int .i64 a), (2, .int .i64 b), (3, .fn 18 [] []), (8, .int .i64 w)] [(0, ⟨0, true, .arr (.agg [.str, .int .u64, .int .u64]) false o⟩)] ∧
        ∃ k : Nat, w = ((P.length + k : Nat) : Int) ∧ n + k = M.length + 1 ∧ 1 ≤ k ∧ o = its (gs (P ++ (srt cG (M.take k) ++ M.drop k) ++ S))) M.length ?_ ?_
    · cbv
      (iterate 2 apply Exists.intro); refine ⟨?_, ?_⟩; cbv
      subst hA
      refine ⟨1, wsucc ha (by omega), rfl, Nat.le_refl _, ?_⟩
      rw [hl]
      rcases M with _ | ⟨x, M⟩
      · rfl
      · simp [srt, insL]
    · rintro n s ⟨o, w, rfl, k, hw, hn, hk1, ho⟩
      cbv
      split <;> rename_i hz <;> (try simp only [List.length_replicate, Int.zero_tmod, toIs_ii, ii_len, Int.zero_tdiv, w0, hA, nE, shl, shr, std, zE32, zE64, nc, nth_rd', i64w, u32_wrap, p32, p31, p63, w6432, toIs_len, set_toIs, repl_toIs, app_toIs, tos1, tos0, p1, take_toIs, drop_toIs, ieq_iff, ieq_iff', ilt_iff, ilt_iff', ile_iff, ile_iff', gt_iff_lt, ge_iff_le, Bool.not_eq_true', Bool.not_eq_false', List.drop_zero, Nat.sub_zero] at hz) <;> cbv
      · have hk : k < M.length := by (try simp only [nc] at *); omega
        obtain ⟨x, D, hD⟩ : ∃ x D, M.drop k = x :: D := ⟨_, _, List.drop_eq_getElem_cons hk⟩
        have hwk := wsucc hw (by omega)
        have hxD : M = M.take k ++ x :: D := by rw [← hD, List.take_append_drop]
        have hT := srt_len (c := cG) (M.take k)
        rw [List.length_take, Nat.min_eq_left (by omega)] at hT
        have hDl : D.length + k + 1 = M.length := by have := congrArg List.length hD; simp at this; omega
        refine loop_intro hA [(0, .own (.agg [.str, .int .u64, .int .u64])), (1, .keep), (2, .keep), (3, .keep), (8, .keep), (9, .keep)] (fun n s => ∃ o w', s = st [(0, .own 0 0), (1, .int .i64 a), (2, .int .i64 b), (3, .fn 18 [] []), (8, .int .i64 w), (9, .int .i64 w')] [(0, ⟨0, true, .arr (.agg [.str, .int .u64, .int .u64]) false o⟩)] ∧
          ∃ X Y : List Gi, X ++ Y = srt cG (M.take k) ∧ (∀ y ∈ Y, cG x y < 0) ∧ w' = ((P.length + X.length : Nat) : Int) ∧ n = X.length ∧ o = its (gs ((P ++ X) ++ x :: (Y ++ (D ++ S))))) k ?_ ?_
        · cbv
          (iterate 2 apply Exists.intro); refine ⟨?_, ?_⟩; cbv
          refine ⟨srt cG (M.take k), [], List.append_nil _, fun y hy => (by cases hy), ?_, hT.symm, ?_⟩
          · rw [hw, hT]
          · rw [ho, hD]; simp
        · rintro n' s ⟨o', w', rfl, X, Y, hXY, hY, hw', hn', ho'⟩
          have hXYl : X.length + Y.length = k := by have := congrArg List.length hXY; rw [List.length_append, hT] at this; exact this
          have hol : o'.length = P.length + M.length + S.length := by
            rw [ho', its_len, gs_len]; simp; omega
          try simp only [nc] at *
          cbv
          split <;> rename_i hz <;> (try simp only [List.length_replicate, Int.zero_tmod, toIs_ii, ii_len, Int.zero_tdiv, w0, hA, nE, shl, shr, std, zE32, zE64, nc, nth_rd', i64w, u32_wrap, p32, p31, p63, w6432, toIs_len, set_toIs, repl_toIs, app_toIs, tos1, tos0, p1, take_toIs, drop_toIs, ieq_iff, ieq_iff', ilt_iff, ilt_iff', ile_iff, ile_iff', gt_iff_lt, ge_iff_le, Bool.not_eq_true', Bool.not_eq_false', List.drop_zero, Nat.sub_zero] at hz) <;> cbv
          · have hX0 : 0 < X.length := by (try simp only [nc] at *); omega
            obtain ⟨X', z, rfl⟩ := snoc hX0
            have hXl : (X' ++ [z]).length = X'.length + 1 := by simp
            rw [hXl] at hw' hn' hX0 hXYl
            have hv : IntKind.i64.wrap (w' - 1) = ((P.length + X'.length : Nat) : Int) := wpred hw' (by omega)
            have hv' : wrap64 (w' - 1) = ((P.length + X'.length : Nat) : Int) := (i64w _).symm.trans hv
            have ho2 : o' = its (gs ((P ++ X') ++ z :: x :: (Y ++ (D ++ S)))) := by rw [ho']; simp
            have t1 : w'.toNat = P.length + X'.length + 1 := toN hw'
            have t2 : (IntKind.i64.wrap (w' - 1)).toNat = P.length + X'.length := toN hv
            obtain ⟨k1, u1, w1⟩ := el3 (n := w'.toNat) ho' (by rw [t1]; simp; omega)
            obtain ⟨k2, u2, w2⟩ := el3 (n := (IntKind.i64.wrap (w' - 1)).toNat) ho2 (by rw [t2]; simp)
            have ix : 0 ≤ w' ∧ w'.toNat < o'.length := ⟨by omega, by omega⟩
            have ix2 : 0 ≤ IntKind.i64.wrap (w' - 1) ∧ (IntKind.i64.wrap (w' - 1)).toNat < o'.length := ⟨by rw [hv]; omega, by omega⟩
            refine ⟨by subst hA; exact ix, by subst hA; exact ix2, by subst hA; simp only [std, k1, u1, w1, k2, u2, w2]; exact ⟨x.2.1, z.2.1⟩, ?_⟩
            cbv
            split <;> rename_i hz <;> (try simp only [List.length_replicate, Int.zero_tmod, toIs_ii, ii_len, Int.zero_tdiv, w0, hA, nE, shl, shr, std, zE32, zE64, nc, nth_rd', i64w, u32_wrap, p32, p31, p63, w6432, toIs_len, set_toIs, repl_toIs, app_toIs, tos1, tos0, p1, take_toIs, drop_toIs, ieq_iff, ieq_iff', ilt_iff, ilt_iff', ile_iff, ile_iff', gt_iff_lt, ge_iff_le, Bool.not_eq_true', Bool.not_eq_false', List.drop_zero, Nat.sub_zero] at hz) <;> cbv
            all_goals rw [k1, u1, w1, ← i64w, k2, u2, w2] at hz
            · refine ⟨by subst hA; exact ix2, by subst hA; exact ix, by subst hA; exact ix, by subst hA; simp only [std, setN, List.length_set]; exact ix2, n' - 1, by omega, ?_⟩
              cbv
              (iterate 2 apply Exists.intro); refine ⟨?_, ?_⟩; cbv
              subst hA
              refine ⟨X', z :: Y, by rw [← hXY]; simp, fun y hy => ?_, hv, by omega, ?_⟩
              · rcases List.mem_cons.1 hy with rfl | hy
                · exact hz
                · exact hY y hy
              · simp only [std, newElt, putC, FV.cells, elt, mkE, mkL, mk1, fit, fitL, fit1, k1, u1, w1, k2, u2, w2]
                have := swap_gs (Q := P ++ X') (R := Y ++ (D ++ S)) (z := z) (x := x) (i := w'.toNat) (j := (IntKind.i64.wrap (w' - 1)).toNat) (by rw [t1]; simp) (by rw [t2]; simp)
                rw [ho2]
                exact this
            · refine ⟨n - 1, by omega, ?_⟩
              cbv
              (iterate 2 apply Exists.intro); refine ⟨?_, ?_⟩; cbv
              subst hA
              refine ⟨k + 1, hwk, by omega, by omega, ?_⟩
              rw [ho', ins_fin hk hD hXY hY (ins_le hXY hz)]
          · have hX0 : X = [] := List.eq_nil_of_length_eq_zero (by (try simp only [nc] at *); omega)
            refine ⟨n - 1, by omega, ?_⟩
            cbv
            (iterate 2 apply Exists.intro); refine ⟨?_, ?_⟩; cbv
            subst hA
            refine ⟨k + 1, hwk, by omega, by omega, ?_⟩
            rw [ho', ins_fin hk hD hXY hY (fun y hy => by rw [hX0] at hy; cases hy)]
      · subst hA
        have hk2 : M.length ≤ k := by (try simp only [nc] at *); omega
        refine fin2 h rfl ?_
        rw [ho, List.take_of_length_le hk2, List.drop_of_length_le hk2]
        simp [std]
  · exact h.elim
end Go.Proofs.YtjipfimhmfhmhaaDoor.Z
