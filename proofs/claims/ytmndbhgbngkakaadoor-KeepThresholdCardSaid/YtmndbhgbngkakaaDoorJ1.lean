/- Rows of items over plain data: few and short ones; all of them; equal ones. No condition. -/
import Derived.Test.YtmndbhgbngkakaaDoorU5
import Derived.Test.YtmndbhgbngkakaaDoorKX
namespace Go.Proofs.YtmndbhgbngkakaaDoor.Z
open Go Go.RowKit Go.Proofs.YtmndbhgbngkakaaDoor.E Go.Proofs.YtmndbhgbngkakaaDoor.G Go.Proofs.YtmndbhgbngkakaaDoor.K Go.Proofs.YtmndbhgbngkakaaDoor.F Go.Proofs.YtmndbhgbngkakaaDoor.M Go.Proofs.YtmndbhgbngkakaaDoor.R
open Go.Proofs.YtmndbhgbngkakaaDoorW.PrintWords hiding rd
set_option linter.all false

set_option maxRecDepth 100000
set_option maxHeartbeats 4000000
def smallB (L : List It) : Bool := decide (L.length ≤ 60) && L.all fun x => decide ((x.key.size : Int) ≤ 100)
def rowIt0 (g : Lz → List It → FV) (A : Lz) (args : List FV) (q : FV → FV → Prop) : Prop :=
  match args with
  | [.row (.agg [.str, .int .u64, .int .u64]) l] => ∃ L : List It, (l = its L ∧ (∀ x ∈ L, x.ok)) ∧ q (g A L) .dead
  | _ => False
theorem small_ok : SpecOk EV 8 ⟨false, rowIt0 fun A L => .bool (A _ fun _ => smallB L)⟩ := by
  refine spec_go (.nil _) (fn := Tryd.f8) rfl rfl Tryd.func8 rfl false [] _ ?_
  intro A hA args q h
  unfold rowIt0 at h
  split at h
  · rename_i l
    obtain ⟨L, ⟨hl, hL⟩, h⟩ := h
    have hll : l.length = L.length := by rw [hl, its_len]
    refine ⟨Nat.le_of_ble_eq_true rfl, ?_⟩
    cbv
    repeat' (first | (refine And.intro (by (try simp only [hA, shl, shr, std, nc, wd0, wd1, wd2, wd3]); first | done | exact ix ‹_› ‹_› | exact ix (Int.le_refl 0) ‹_› | decide | exact ap4 ‹_› | exact ap8 ‹_› | exact mk4 ‹_› ‹_› | exact mk8 ‹_› ‹_› | exact ix' ‹_› ‹_› | assumption | omega) ?_; cbv) | (split <;> rename_i hz <;> (try simp only [hA, shl, shr, std, nc, wd0, wd1, wd2, wd3] at hz) <;> first | contradiction | (exfalso; omega) | (exfalso; have hz2 := hz.symm.trans ‹_ = true›; cases hz2; done) | (exfalso; have hz2 := hz.symm.trans ‹_ = false›; cases hz2; done) | cbv))
    · subst hA
      refine fin_bool h ?_
      have : ¬ L.length ≤ 60 := by simp only [nc] at *; omega
      simp [smallB, this, std]
    · refine loop_intro hA [(0, .keep), (3, .keep)] (fun n s => ∃ w, s = st [(0, .row (.agg [.str, .int .u64, .int .u64]) l), (3, .int .i64 w)] [] ∧
        ∃ k : Nat, w = k ∧ n + k = L.length ∧ ∀ i, i < k → decide (((gi L i).key.size : Int) ≤ 100) = true) L.length ?_ ?_
      · cbv
        (iterate 1 apply Exists.intro); refine ⟨?_, ?_⟩; cbv
        exact ⟨0, rfl, rfl, fun i hi => by omega⟩
      · rintro n s ⟨w, rfl, k, hw, hn, hk⟩
        have hw0 : 0 ≤ w ∧ w ≤ l.length := by simp only [nc] at *; omega
        have hw1 : w.toNat = k := by rw [hw]; rfl
        cbv
        repeat' (first | (refine And.intro (by (try simp only [hA, shl, shr, std, nc, wd0, wd1, wd2, wd3]); first | done | exact ix ‹_› ‹_› | exact ix (Int.le_refl 0) ‹_› | decide | exact ap4 ‹_› | exact ap8 ‹_› | exact mk4 ‹_› ‹_› | exact mk8 ‹_› ‹_› | exact ix' ‹_› ‹_› | assumption | omega) ?_; cbv) | (split <;> rename_i hz <;> (try simp only [hA, shl, shr, std, nc, wd0, wd1, wd2, wd3] at hz) <;> first | contradiction | (exfalso; omega) | (exfalso; have hz2 := hz.symm.trans ‹_ = true›; cases hz2; done) | (exfalso; have hz2 := hz.symm.trans ‹_ = false›; cases hz2; done) | cbv))
        · refine ⟨(by subst hA; (try simp only [std, nc] at *); omega), ?_⟩
          subst hA
          refine fin_bool h ?_
          have hk1 : k < L.length := by simp only [nc] at *; omega
          rw [hw1, hl, its_key] at hz
          have := not_all (p := fun x => decide ((x.key.size : Int) ≤ 100)) hk1 (decide_eq_false (by simp only [nc] at *; omega))
          simp only [std, smallB, this, Bool.and_false]
        · refine ⟨(by subst hA; (try simp only [std, nc] at *); omega), n - 1, by simp only [nc] at *; omega, ?_⟩
          rw [hw1, hl, its_key] at hz
          cbv
          (iterate 1 apply Exists.intro); refine ⟨?_, ?_⟩; cbv
          subst hA
          have hk1 : k < L.length := by simp only [nc] at *; omega
          refine ⟨k + 1, wsucc hw (by omega), by omega, fun i hi => ?_⟩
          · by_cases e : i = k
            · subst e; exact decide_eq_true (by simp only [nc] at *; omega)
            · exact hk i (by omega)
        · subst hA
          refine fin_bool h ?_
          have hk1 : k = L.length := by simp only [nc] at *; omega
          have h1 : L.length ≤ 60 := by simp only [nc] at *; omega
          have := all_gi (p := fun x => decide ((x.key.size : Int) ≤ 100)) (fun i hi => hk i (by omega))
          simp only [std, smallB, this, h1, decide_true, Bool.and_true]
  · exact h.elim
end Go.Proofs.YtmndbhgbngkakaaDoor.Z
