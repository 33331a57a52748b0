/- Items are sorted by the document; by itself. No condition. -/
import Derived.Test.YtmndbhgbngkakaaDoorJ1
import Derived.Test.YtmndbhgbngkakaaDoorKX
namespace Go.Proofs.YtmndbhgbngkakaaDoor.Z
open Go Go.RowKit Go.Proofs.YtmndbhgbngkakaaDoor.E Go.Proofs.YtmndbhgbngkakaaDoor.G Go.Proofs.YtmndbhgbngkakaaDoor.K Go.Proofs.YtmndbhgbngkakaaDoor.F Go.Proofs.YtmndbhgbngkakaaDoor.M Go.Proofs.YtmndbhgbngkakaaDoor.R
open Go.Proofs.YtmndbhgbngkakaaDoorW.PrintWords hiding rd
set_option linter.all false

set_option maxRecDepth 100000
set_option maxHeartbeats 4000000
theorem ins_leA {M X' Y : List Gi} {x z : Gi} (hXY : (X' ++ [z]) ++ Y = srt cG M) (hz : ¬ cmpIt x.1 z.1 < 0) : ∀ y ∈ X' ++ [z], cG y x ≤ 0 := by
  have hs := srt_srtd cG_pre M
  rw [← hXY] at hs
  obtain ⟨h1, _, _⟩ := srtd_append.1 hs
  obtain ⟨_, _, h2⟩ := srtd_append.1 h1
  have hzx : cG z x ≤ 0 := by rw [cG_pre.anti x z]; have : cG x z = cmpIt x.1 z.1 := rfl; omega
  intro y hy
  rcases List.mem_append.1 hy with hy | hy
  · exact cG_pre.trans (h2 y hy z (List.mem_singleton.2 rfl)) hzx
  · rw [List.mem_singleton.1 hy]; exact hzx
theorem take_sA {α : Type} {M D : List α} {x : α} {k : Nat} (h : M.drop k = x :: D) : M.take (k + 1) = M.take k ++ [x] := by rw [List.take_add, h]; rfl
theorem drop_cA {α : Type} {M : List α} {k : Nat} (h : k < M.length) : ∃ x D, M.drop k = x :: D := ⟨_, _, List.drop_eq_getElem_cons h⟩
theorem its_gs_lenA {L : List Gi} : (its (gs L)).length = L.length := by rw [its_len, gs_len]
theorem gs_insA {x : Gi} : ∀ {L : List Gi}, gs (insL cG x L) = insL cmpIt x.1 (gs L)
  | [] => rfl
  | y :: L => by
    unfold insL
    show gs (if cG y x < 0 then y :: insL cG x L else x :: y :: L) = if cmpIt y.1 x.1 < 0 then y.1 :: insL cmpIt x.1 (gs L) else x.1 :: y.1 :: gs L
    have e : cG y x = cmpIt y.1 x.1 := rfl
    rw [e]
    split
    · show y.1 :: gs (insL cG x L) = _
      rw [gs_insA]
    · rfl
theorem gs_srtA : ∀ (L : List Gi), gs (srt cG L) = srt cmpIt (gs L)
  | [] => rfl
  | x :: L => by rw [srt, gs_insA, gs_srtA L]; rfl
theorem partsA {X Y : List Gi} {o : List FV} {w' : Int} (hoX : o = its (gs (X ++ Y))) (hw' : w' = (X.length : Int)) : (o.drop 0).take (w'.toNat - 0) = its (gs X) ∧ (o.drop w'.toNat).take (o.length - w'.toNat) = its (gs Y) ∧ (0 ≤ w' ∧ w'.toNat ≤ o.length) := by
  have e : o.length = X.length + Y.length := by rw [hoX, its_gs_lenA, List.length_append]
  have e1 : List.take X.length (gs (X ++ Y)) = gs X := by unfold gs; rw [← List.map_take, List.take_left']; rfl
  have e2 : List.drop X.length (gs (X ++ Y)) = gs Y := by unfold gs; rw [← List.map_drop, List.drop_left']; rfl
  refine ⟨?_, ?_, by omega, by rw [toN hw']; omega⟩
  · rw [toN hw', hoX, List.drop_zero, Nat.sub_zero, its_take, e1]
  · rw [toN hw', e, hoX, its_drop, e2, List.take_of_length_le (by rw [its_gs_lenA]; omega)]
def rsrtRunA (A : Lz) (args : List FV) (q : FV → FV → Prop) : Prop :=
  match args with
  | [.row (.agg [.str, .int .u64, .int .u64]) l] => ∃ M : List Gi, (l = its (gs M) ∧ M.length < 1099511627776) ∧ q (.row (.agg [.str, .int .u64, .int .u64]) (A _ fun _ => its (srt cmpIt (gs M)))) .dead
  | _ => False
theorem rsrt_okA : SpecOk EV 29 ⟨false, rsrtRunA⟩ := by
  refine .fit [.row (.agg [.str, .int .u64, .int .u64])] (spec_go (.cons (f := 28) rcmpIt_ok (.nil _)) (fn := Tryd.f29) rfl rfl Tryd.func29 rfl false [] _ ?_)
  rintro A hA args q0 ⟨hw, q, hq, h⟩
  unfold rsrtRunA at h
  split at h
  · rename_i l
    obtain ⟨M, ⟨hl, hb⟩, h⟩ := h
    have hll : l.length = M.length := by rw [hl, its_gs_lenA]
    refine ⟨Nat.le_of_ble_eq_true rfl, ?_⟩
    cbv
    refine loop_intro hA [(0, .keep), (3, .own (.agg [.str, .int .u64, .int .u64])), (4, .keep)] (fun n s => ∃ o w, s = st [(0, .row (.agg [.str, .int .u64, .int .u64]) l), (3, .own 3 0), (4, .int .i64 w)] [(3, ⟨0, true, .arr (.agg [.str, .int .u64, .int .u64]) true o⟩)] ∧
      ∃ k : Nat, w = (k : Int) ∧ n + k = M.length ∧ o = its (gs (srt cG (M.take k)))) M.length ?_ ?_
    · cbv
      (iterate 2 apply Exists.intro); refine ⟨?_, ?_⟩; cbv
      exact ⟨0, rfl, rfl, rfl⟩
    · rintro n s ⟨o, w, rfl, k, hw, hn, ho⟩
      cbv
      split <;> rename_i hz <;> (try simp only [List.length_replicate, Int.zero_tmod, toIs_ii, ii_len, Int.zero_tdiv, w0, hA, nE, shl, shr, std, zE32, zE64, nc, nth_rd', i64w, u32_wrap, p32, p31, p63, w6432, toIs_len, set_toIs, repl_toIs, app_toIs, tos1, tos0, p1, take_toIs, drop_toIs, ieq_iff, ieq_iff', ilt_iff, ilt_iff', ile_iff, ile_iff', gt_iff_lt, ge_iff_le, Bool.not_eq_true', Bool.not_eq_false', List.drop_zero, Nat.sub_zero] at hz) <;> cbv
      · have hk : k < M.length := by (try simp only [nc] at *); omega
        have hwk := wsucc hw (by omega)
        obtain ⟨x, D, hD⟩ := drop_cA hk
        have hx : M[k]? = some x := by
          have := congrArg List.head? hD
          rwa [List.head?_drop] at this
        have hT := srt_len (c := cG) (M.take k)
        rw [List.length_take, Nat.min_eq_left (by omega)] at hT
        obtain ⟨k1, u1, w1⟩ := elq hl (n := w.toNat) (by rw [toN hw]; exact hx)
        have ixl : 0 ≤ w ∧ w.toNat < l.length := ⟨by rw [hw]; exact Int.natCast_nonneg _, by rw [toN hw]; omega⟩
        have hol : o.length = k := by rw [ho, its_gs_lenA, hT]
        refine loop_intro hA [(0, .keep), (3, .own (.agg [.str, .int .u64, .int .u64])), (4, .keep), (5, .keep)] (fun n s => ∃ w', s = st [(0, .row (.agg [.str, .int .u64, .int .u64]) l), (3, .own 3 0), (4, .int .i64 w), (5, .int .i64 w')] [(3, ⟨0, true, .arr (.agg [.str, .int .u64, .int .u64]) true o⟩)] ∧
          ∃ X Y : List Gi, X ++ Y = srt cG (M.take k) ∧ (∀ y ∈ Y, cG x y < 0) ∧ w' = (X.length : Int) ∧ n = X.length) k ?_ ?_
        · cbv
          (iterate 1 apply Exists.intro); refine ⟨?_, ?_⟩; cbv
          refine ⟨srt cG (M.take k), [], List.append_nil _, fun y hy => (by cases hy), ?_, hT.symm⟩
          rw [hA]; show (o.length : Int) = _; rw [hol, hT]
        · rintro n' s ⟨w', rfl, X, Y, hXY, hY, hw', hn'⟩
          have hXYl : X.length + Y.length = k := by have := congrArg List.length hXY; rw [List.length_append, hT] at this; exact this
          have hoX : o = its (gs (X ++ Y)) := by rw [ho, hXY]
          have fin : (∀ y ∈ X, cG y x ≤ 0) → its (gs (X ++ x :: Y)) = its (gs (srt cG (M.take (k + 1)))) := fun hX => by
            rw [take_sA hD, ← srt_ins cG_pre hXY hY hX]
          cbv
          split <;> rename_i hz <;> (try simp only [List.length_replicate, Int.zero_tmod, toIs_ii, ii_len, Int.zero_tdiv, w0, hA, nE, shl, shr, std, zE32, zE64, nc, nth_rd', i64w, u32_wrap, p32, p31, p63, w6432, toIs_len, set_toIs, repl_toIs, app_toIs, tos1, tos0, p1, take_toIs, drop_toIs, ieq_iff, ieq_iff', ilt_iff, ilt_iff', ile_iff, ile_iff', gt_iff_lt, ge_iff_le, Bool.not_eq_true', Bool.not_eq_false', List.drop_zero, Nat.sub_zero] at hz) <;> cbv
          · have hX0 : 0 < X.length := by (try simp only [nc] at *); omega
            obtain ⟨X', z, rfl⟩ := snoc hX0
            have hXl : (X' ++ [z]).length = X'.length + 1 := by simp
            have ew : IntKind.i64.wrap (w' - 1) = (X'.length : Int) := wpred (by rw [hw', hXl]) (by omega)
            obtain ⟨k2, u2, w2⟩ := elq (n := (IntKind.i64.wrap (w' - 1)).toNat) hoX (x := z) (by rw [toN ew]; simp)
            have ix2 : 0 ≤ IntKind.i64.wrap (w' - 1) ∧ (IntKind.i64.wrap (w' - 1)).toNat < o.length := ⟨by rw [ew]; omega, by rw [toN ew, hol]; omega⟩
            refine ⟨by subst hA; exact ixl, by subst hA; exact ix2, by subst hA; simp only [std, k1, u1, w1, k2, u2, w2]; exact ⟨x.2.1, z.2.1⟩, ?_⟩
            cbv
            split <;> rename_i hz <;> (try simp only [List.length_replicate, Int.zero_tmod, toIs_ii, ii_len, Int.zero_tdiv, w0, hA, nE, shl, shr, std, zE32, zE64, nc, nth_rd', i64w, u32_wrap, p32, p31, p63, w6432, toIs_len, set_toIs, repl_toIs, app_toIs, tos1, tos0, p1, take_toIs, drop_toIs, ieq_iff, ieq_iff', ilt_iff, ilt_iff', ile_iff, ile_iff', gt_iff_lt, ge_iff_le, Bool.not_eq_true', Bool.not_eq_false', List.drop_zero, Nat.sub_zero] at hz) <;> (try simp only [← i64w] at hz) <;> cbv
            all_goals rw [k1, u1, w1, k2, u2, w2] at hz
            · refine ⟨n' - 1, by omega, ?_⟩
              cbv
              (iterate 1 apply Exists.intro); refine ⟨?_, ?_⟩; cbv
              subst hA
              refine ⟨X', z :: Y, by rw [← hXY]; simp, fun y hy => ?_, ew, by omega⟩
              rcases List.mem_cons.1 hy with rfl | hy
              · exact hz
              · exact hY y hy
            · have fx := fin (ins_leA hXY hz)
              obtain ⟨tk, dk, ix1⟩ := partsA hoX hw'
              refine ⟨by subst hA; exact ix1, ?_⟩
              
              split <;> rename_i hsp <;> cbv
              all_goals repeat (refine And.intro (by first | decide | (subst hA; exact ixl) | (subst hA; exact ix1) | (subst hA; simp only [std, tk, dk, its_gs_lenA, List.length_append, List.length_cons, List.length_nil, maxRoom] at *; first | omega | exact ⟨by omega, by omega, by simp⟩ | exact ⟨by omega, by omega, by rw [hsp]; simp⟩)) ?_; cbv)
              all_goals refine ⟨n - 1, by omega, ?_⟩
              all_goals cbv
              · (iterate 2 apply Exists.intro); refine ⟨?_, ?_⟩; cbv
                subst hA
                refine ⟨k + 1, hwk, by omega, ?_⟩
                simp only [std] at hsp
                rw [tk] at hsp
                rw [← fx]
                simp only [std, dk, elt, mkE, mkL, mk1, k1, u1, w1]
                have e := congrArg (· ++ (itF x.1 :: its (gs Y))) hsp
                simpa [its, gs, itF] using e.symm
              · (iterate 2 apply Exists.intro); refine ⟨?_, ?_⟩; cbv
                subst hA
                refine ⟨k + 1, hwk, by omega, ?_⟩
                rw [← fx]
                simp only [std, tk, dk, elt, mkE, mkL, mk1, k1, u1, w1]
                simp [its, gs, itF]
          · have hX0 : X = [] := List.eq_nil_of_length_eq_zero (by (try simp only [nc] at *); omega)
            have fx := fin (fun y hy => by rw [hX0] at hy; cases hy)
            obtain ⟨tk, dk, ix1⟩ := partsA hoX hw'
            refine ⟨by subst hA; exact ix1, ?_⟩
            
            split <;> rename_i hsp <;> cbv
            all_goals repeat (refine And.intro (by first | decide | (subst hA; exact ixl) | (subst hA; exact ix1) | (subst hA; simp only [std, tk, dk, its_gs_lenA, List.length_append, List.length_cons, List.length_nil, maxRoom] at *; first | omega | exact ⟨by omega, by omega, by simp⟩ | exact ⟨by omega, by omega, by rw [hsp]; simp⟩)) ?_; cbv)
            all_goals refine ⟨n - 1, by omega, ?_⟩
            all_goals cbv
            · (iterate 2 apply Exists.intro); refine ⟨?_, ?_⟩; cbv
              subst hA
              refine ⟨k + 1, hwk, by omega, ?_⟩
              simp only [std] at hsp
              rw [tk] at hsp
              rw [← fx]
              simp only [std, dk, elt, mkE, mkL, mk1, k1, u1, w1]
              have e := congrArg (· ++ (itF x.1 :: its (gs Y))) hsp
              simpa [its, gs, itF] using e.symm
            · (iterate 2 apply Exists.intro); refine ⟨?_, ?_⟩; cbv
              subst hA
              refine ⟨k + 1, hwk, by omega, ?_⟩
              rw [← fx]
              simp only [std, tk, dk, elt, mkE, mkL, mk1, k1, u1, w1]
              simp [its, gs, itF]
      · have hk2 : M.length ≤ k := by (try simp only [nc] at *); omega
        refine hq _ _ ?_
        subst hA
        refine fin1 h ?_
        rw [ho, List.take_of_length_le hk2, gs_srtA]
        rfl
  · exact h.elim
end Go.Proofs.YtmndbhgbngkakaaDoor.Z
