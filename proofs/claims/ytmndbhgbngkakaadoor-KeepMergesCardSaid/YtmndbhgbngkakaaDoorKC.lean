/- the document's Best over plain data. No condition. -/
import Derived.Test.YtmndbhgbngkakaaDoorKX
import Derived.Test.YtmndbhgbngkakaaDoorJA
namespace Go.Proofs.YtmndbhgbngkakaaDoor.Z
open Go Go.RowKit Go.Proofs.YtmndbhgbngkakaaDoor.E Go.Proofs.YtmndbhgbngkakaaDoor.G Go.Proofs.YtmndbhgbngkakaaDoor.K Go.Proofs.YtmndbhgbngkakaaDoor.F Go.Proofs.YtmndbhgbngkakaaDoor.M Go.Proofs.YtmndbhgbngkakaaDoor.R
open Go.Proofs.YtmndbhgbngkakaaDoorW.PrintWords hiding rd
set_option linter.all false

set_option maxRecDepth 100000
set_option maxHeartbeats 4000000
/-- Item j does not stand in item i's way. -/
def fair (L : List It) (i j : Nat) : Prop := j ≠ i → (gi L j).key = (gi L i).key → 0 ≤ cmpIt (gi L j) (gi L i) ∧ (0 < cmpIt (gi L j) (gi L i) ∨ i < j)
def first (L : List It) (i : Nat) : Prop := ∀ j, j < L.length → fair L i j
noncomputable instance (L : List It) (i : Nat) : Decidable (first L i) := Classical.propDecidable _
noncomputable instance (L : List It) (i j : Nat) : Decidable (fair L i j) := Classical.propDecidable _
/-- Of each key the least one, of these the first. -/
noncomputable def bests (L : List It) (n : Nat) : List It := ((List.range n).filter fun i => decide (first L i)).map (gi L)
theorem bests_yes {L : List It} {i : Nat} (h : first L i) : bests L (i + 1) = bests L i ++ [gi L i] := by simp [bests, List.range_succ, h]
theorem bests_no {L : List It} {i : Nat} (h : ¬ first L i) : bests L (i + 1) = bests L i := by simp [bests, List.range_succ, h]
theorem bests_len {L : List It} {n : Nat} : (bests L n).length ≤ n := by
  unfold bests
  rw [List.length_map]
  exact Nat.le_trans (List.length_filter_le _ _) (by rw [List.length_range]; exact Nat.le_refl _)
theorem bests_sub {L : List It} {x : It} (h : x ∈ bests L L.length) : x ∈ L := by
  unfold bests at h
  simp only [List.mem_map, List.mem_filter, List.mem_range] at h
  obtain ⟨i, ⟨hi, _⟩, rfl⟩ := h
  exact gi_mem hi
theorem rdit {l : List FV} {L : List It} {m n : Nat} (hl : l = its L) (h : m = n) : ((G.nth l m).cell 0).toS = (gi L n).key ∧ ((G.nth l m).cell 1).toI = (gi L n).u ∧ ((G.nth l m).cell 2).toI = (gi L n).w := by
  subst hl; subst h
  exact ⟨its_key L m, its_u L m, its_w L m⟩
theorem gs_take' (S : List Gi) (n : Nat) : gs (S.take n) = (gs S).take n := by simp [gs, List.map_take]
def bestRun (A : Lz) (args : List FV) (q : FV → FV → Prop) : Prop :=
  match args with
  | [.row (.agg [.str, .int .u64, .int .u64]) l, .int .i64 k] =>
    ∃ (L : List It) (n : Nat), (l = its L ∧ (∀ x ∈ L, x.ok ∧ 0 < x.w) ∧ L.length ≤ 60 ∧ k = n) ∧ ∀ M : List Gi, gs M = bests L L.length → q (.row (.agg [.str, .int .u64, .int .u64]) (its (gs ((srt cG M).take n)))) .dead
  | _ => False
theorem best_ok : SpecOk EV 13 ⟨false, bestRun⟩ := by
  refine spec_go (.cons (f := 28) rcmpIt_ok (.cons (f := 29) rsrt_okA (.nil _))) (fn := Tryd.f13) rfl rfl Tryd.func13 rfl false [] _ ?_
  intro A hA args q h
  unfold bestRun at h
  split at h
  · rename_i l k
    obtain ⟨L, kn, ⟨hl, hL, hb, hkn⟩, h⟩ := h
    have hll : l.length = L.length := by rw [hl, its_len]
    refine ⟨Nat.le_of_ble_eq_true rfl, ?_⟩
    cbv
    refine loop_intro hA [(0, .keep), (1, .keep), (5, .own (.agg [.str, .int .u64, .int .u64])), (6, .keep)] (fun n s => ∃ o w, s = st [(0, .row (.agg [.str, .int .u64, .int .u64]) l), (1, .int .i64 k), (5, .own 5 0), (6, .int .i64 w)] [(5, ⟨0, true, .arr (.agg [.str, .int .u64, .int .u64]) true o⟩)] ∧
      ∃ i : Nat, w = i ∧ n + i = L.length ∧ o = its (bests L i)) L.length ?_ ?_
    · cbv
      (iterate 2 apply Exists.intro); refine ⟨?_, ?_⟩; cbv
      exact ⟨0, rfl, rfl, rfl⟩
    · rintro n s ⟨o, w, rfl, i, hw, hn, ho⟩
      cbv
      split <;> rename_i hz <;> (try simp only [List.length_replicate, Int.zero_tmod, toIs_ii, ii_len, Int.zero_tdiv, w0, hA, nE, shl, shr, std, zE32, zE64, nc, nth_rd', i64w, u32_wrap, p32, p31, p63, w6432, toIs_len, set_toIs, repl_toIs, app_toIs, tos1, tos0, p1, take_toIs, drop_toIs, ieq_iff, ieq_iff', ilt_iff, ilt_iff', ile_iff, ile_iff', gt_iff_lt, ge_iff_le, Bool.not_eq_true', Bool.not_eq_false', List.drop_zero, Nat.sub_zero] at hz) <;> cbv
      · have hi : i < L.length := by (try simp only [nc] at *); omega
        refine loop_intro hA [(0, .keep), (1, .keep), (5, .own (.agg [.str, .int .u64, .int .u64])), (6, .keep), (7, .keep), (8, .keep)] (fun n s => ∃ b v, s = st [(0, .row (.agg [.str, .int .u64, .int .u64]) l), (1, .int .i64 k), (5, .own 5 0), (6, .int .i64 w), (7, .bool b), (8, .int .i64 v)] [(5, ⟨0, true, .arr (.agg [.str, .int .u64, .int .u64]) true o⟩)] ∧
          ∃ j : Nat, v = j ∧ n + j = L.length ∧ (b = true ↔ ∀ t, t < j → fair L i t)) L.length ?_ ?_
        · cbv
          (iterate 2 apply Exists.intro); refine ⟨?_, ?_⟩; cbv
          exact ⟨0, rfl, rfl, by simp⟩
        · rintro n' s ⟨b, v, rfl, j, hv, hn', hb2⟩
          cbv
          split <;> rename_i hz3 <;> (try simp only [List.length_replicate, Int.zero_tmod, toIs_ii, ii_len, Int.zero_tdiv, w0, hA, nE, shl, shr, std, zE32, zE64, nc, nth_rd', i64w, u32_wrap, p32, p31, p63, w6432, toIs_len, set_toIs, repl_toIs, app_toIs, tos1, tos0, p1, take_toIs, drop_toIs, ieq_iff, ieq_iff', ilt_iff, ilt_iff', ile_iff, ile_iff', gt_iff_lt, ge_iff_le, Bool.not_eq_true', Bool.not_eq_false', List.drop_zero, Nat.sub_zero] at hz3) <;> cbv
          · have hj : j < L.length := by (try simp only [nc] at *); omega
            have ixw : 0 ≤ w ∧ w.toNat < l.length := ⟨by rw [hw]; exact Int.natCast_nonneg _, by rw [hll, toN hw]; exact hi⟩
            have ixv : 0 ≤ v ∧ v.toNat < l.length := ⟨by rw [hv]; exact Int.natCast_nonneg _, by rw [hll, toN hv]; exact hj⟩
            obtain ⟨a1, a2, a3⟩ := rdit hl (toN hv)
            obtain ⟨c1, c2, c3⟩ := rdit hl (toN hw)
            have okj := (hL _ (gi_mem hj)).1
            have oki := (hL _ (gi_mem hi)).1
            have fin : ∀ b' : Bool, (b' = true ↔ (b = true ∧ fair L i j)) → (b' = true ↔ ∀ t, t < j + 1 → fair L i t) := fun b' h => by
              rw [h, hb2]
              refine ⟨fun ⟨h1, h2⟩ t ht => ?_, fun h => ⟨fun t ht => h t (by omega), h j (by omega)⟩⟩
              by_cases e : t = j
              · rw [e]; exact h2
              · exact h1 t (by omega)
            have hvj : v = w ↔ j = i := by (try simp only [nc] at *); constructor <;> intro h <;> omega
            have hwv : w < v ↔ i < j := by (try simp only [nc] at *); constructor <;> intro h <;> omega
            clear hb2 ho h
            repeat' (first | (refine And.intro (by subst hA; first | exact ixw | exact ixv) ?_; cbv) | (split <;> rename_i hz <;> cbv))
            all_goals try (refine And.intro (by subst hA; simp only [std, a1, a2, a3, c1, c2, c3]; exact ⟨okj, oki⟩) ?_)
            all_goals refine ⟨n' - 1, by omega, ?_⟩
            all_goals cbv
            all_goals (iterate 2 apply Exists.intro); refine ⟨?_, ?_⟩; cbv
            all_goals subst hA
            all_goals refine ⟨j + 1, wsucc hv (by omega), by omega, fin _ ?_⟩
            all_goals simp only [std, a1, a2, a3, c1, c2, c3, it_eta, ieq, ile, ilt, seq, hvj, hwv, Bool.not_eq_true', Bool.not_eq_false', decide_eq_true_eq, decide_eq_false_iff_not] at *
            all_goals unfold fair
            all_goals simp_all
            all_goals omega
          · have hj : j = L.length := by (try simp only [nc] at *); omega
            have hb3 : b = true ↔ first L i := by rw [hb2, hj]; rfl
            have hwk := wsucc hw (by omega)
            have hol : o.length ≤ i := by rw [ho, its_len]; exact bests_len
            have ixw : 0 ≤ w ∧ w.toNat < l.length := ⟨by rw [hw]; exact Int.natCast_nonneg _, by rw [hll, toN hw]; exact hi⟩
            obtain ⟨c1, c2, c3⟩ := rdit hl (toN hw)
            split <;> cbv
            · have hf : first L i := hb3.1 rfl
              refine ⟨by subst hA; exact ixw, by subst hA; unfold maxRoom; simp only [std, List.length_cons, List.length_nil]; omega, ?_⟩
              cbv
              refine ⟨n - 1, by omega, ?_⟩
              cbv
              (iterate 2 apply Exists.intro); refine ⟨?_, ?_⟩; cbv
              subst hA
              refine ⟨i + 1, hwk, by omega, ?_⟩
              rw [bests_yes hf, ho, ← its_app]
              simp only [std, c1, c2, c3]
              rfl
            · have hf : ¬ first L i := fun h => by have := hb3.2 h; cases this
              refine ⟨n - 1, by omega, ?_⟩
              cbv
              (iterate 2 apply Exists.intro); refine ⟨?_, ?_⟩; cbv
              subst hA
              exact ⟨i + 1, hwk, by omega, by rw [bests_no hf, ho]⟩
      · have hi : i = L.length := by (try simp only [nc] at *); omega
        obtain ⟨M, hM⟩ := gs_of (L := bests L L.length) fun x hx => hL x (bests_sub hx)
        have hMl : M.length ≤ 60 := by
          have e : (gs M).length = M.length := gs_len M
          rw [← hM] at e
          have := bests_len (L := L) (n := L.length)
          omega
        refine ⟨M, ⟨by rw [ho, hi, hM], by omega⟩, ?_⟩
        cbv
        have hS : (srt cmpIt (gs M)).length = M.length := by rw [srt_len, gs_len]
        split <;> rename_i hz2 <;> (try simp only [List.length_replicate, Int.zero_tmod, toIs_ii, ii_len, Int.zero_tdiv, w0, hA, nE, shl, shr, std, zE32, zE64, nc, nth_rd', i64w, u32_wrap, p32, p31, p63, w6432, toIs_len, set_toIs, repl_toIs, app_toIs, tos1, tos0, p1, take_toIs, drop_toIs, ieq_iff, ieq_iff', ilt_iff, ilt_iff', ile_iff, ile_iff', gt_iff_lt, ge_iff_le, Bool.not_eq_true', Bool.not_eq_false', List.drop_zero, Nat.sub_zero] at hz2) <;> cbv
        · subst hA
          simp only [std] at hz2 ⊢
          have hk : (k.toNat) = kn := by rw [hkn]; rfl
          rw [its_len, hS] at hz2 ⊢
          refine ⟨by (try simp only [nc] at *); omega, ?_⟩
          have := h M hM.symm
          rw [gs_take', gs_srtA, ← its_take] at this
          rw [hk, List.drop_zero, Nat.sub_zero]
          exact this
        · subst hA
          rw [its_len, hS] at hz2
          have := h M hM.symm
          rw [List.take_of_length_le (by rw [srt_len]; (try simp only [nc] at *); omega), gs_srtA] at this
          exact this
  · exact h.elim
end Go.Proofs.YtmndbhgbngkakaaDoor.Z
