/- keep.add: the place of a key; the place of an item. No condition. -/
import Derived.Test.YtmndbhgbngkakaaDoorJ1
namespace Go.Proofs.YtmndbhgbngkakaaDoor.Z
open Go Go.RowKit Go.Proofs.YtmndbhgbngkakaaDoor.E Go.Proofs.YtmndbhgbngkakaaDoor.G Go.Proofs.YtmndbhgbngkakaaDoor.K Go.Proofs.YtmndbhgbngkakaaDoor.F Go.Proofs.YtmndbhgbngkakaaDoor.M Go.Proofs.YtmndbhgbngkakaaDoor.R
open Go.Proofs.YtmndbhgbngkakaaDoorW.PrintWords hiding rd
set_option linter.all false

set_option maxRecDepth 100000
set_option maxHeartbeats 4000000
def keyRun (A : Lz) (args : List FV) (q : FV → FV → Prop) : Prop :=
  match args with
  | [.agg [.str k, .int .u64 u, .int .u64 w], .fptr [.str k', .int .u64 u', .int .u64 w'] 0] => q (.bool (A _ fun _ => decide (k = k'))) .dead
  | _ => False
theorem keyF_ok : SpecOk EV 44 ⟨false, keyRun⟩ := by
  refine spec_go (.nil _) (fn := Tryd.f44) rfl rfl Tryd.func44 rfl false [] _ ?_
  intro A hA args q h
  unfold keyRun at h
  split at h
  · refine ⟨Nat.le_of_ble_eq_true rfl, ?_⟩
    cbv
    subst hA
    refine fin_bool h ?_
    simp [std, seq]
  · exact h.elim
/-- Where this key stands first. -/
def isPos (k : ByteArray) (L : List It) (r : Int) : Prop := (r = -1 ∧ ∀ i, i < L.length → (gi L i).key ≠ k) ∨ ∃ n : Nat, r = n ∧ n < L.length ∧ (gi L n).key = k ∧ ∀ i, i < n → (gi L i).key ≠ k
def idxKRun (A : Lz) (args : List FV) (q : FV → FV → Prop) : Prop :=
  match args with
  | [.row (.agg [.str, .int .u64, .int .u64]) l, .fn 44 [] [.fptr [.str k', .int .u64 u', .int .u64 w'] 0]] => ∃ L : List It, (l = its L ∧ (∀ x ∈ L, x.ok) ∧ L.length < 9223372036854775807) ∧ ∀ r : Int, isPos k' L r → q (.int .i64 r) .dead
  | _ => False
theorem idxK_ok : SpecOk EV 43 ⟨false, idxKRun⟩ := by
  refine spec_go (.cons (f := 44) keyF_ok (.nil _)) (fn := Tryd.f43) rfl rfl Tryd.func43 rfl false [] _ ?_
  intro A hA args q h
  unfold idxKRun at h
  split at h
  · rename_i l k' u' w'
    obtain ⟨L, ⟨hl, hL, hb⟩, h⟩ := h
    have hll : l.length = L.length := by rw [hl, its_len]
    refine ⟨Nat.le_of_ble_eq_true rfl, ?_⟩
    cbv
    refine loop_intro hA [(0, .keep), (1, .keep), (7, .keep), (8, .keep)] (fun n s => ∃ w, s = st [(0, .row (.agg [.str, .int .u64, .int .u64]) l), (1, .fn 44 [] [.fptr [.str k', .int .u64 u', .int .u64 w'] 0]), (7, .int .i64 (A _ fun _ => (l.length : Int))), (8, .int .i64 w)] [] ∧
        ∃ k : Nat, w = k ∧ n + k = L.length ∧ ∀ i, i < k → (gi L i).key ≠ k') L.length ?_ ?_
    · cbv
      (iterate 1 apply Exists.intro); refine ⟨?_, ?_⟩; cbv
      exact ⟨0, rfl, rfl, fun i hi => by omega⟩
    · rintro n s ⟨w, rfl, k, hw, hn, hk⟩
      have hw0 : 0 ≤ w ∧ w ≤ l.length := by (try simp only [nc] at *); omega
      have hw1 : w.toNat = k := by rw [hw]; rfl
      have e1 := its_key L k
      rw [← hl, ← hw1] at e1
      cbv
      split <;> rename_i hz <;> (try simp only [hA, shl, shr, std, nc, wd0, wd1, wd2, wd3] at hz) <;> cbv
      · have hk1 : k < L.length := by (try simp only [nc] at *); omega
        refine ⟨(by subst hA; (try simp only [std, nc] at *); omega), ?_⟩
        cbv
        split <;> rename_i hz <;> (try simp only [hA, shl, shr, std, nc, wd0, wd1, wd2, wd3] at hz) <;> cbv
        all_goals rw [e1, hw1] at hz
        · refine h _ ?_
          exact .inr ⟨k, hw, hk1, by simpa using hz, hk⟩
        · refine ⟨n - 1, by (try simp only [nc] at *); omega, ?_⟩
          cbv
          (iterate 1 apply Exists.intro); refine ⟨?_, ?_⟩; cbv
          subst hA
          refine ⟨k + 1, wsucc hw (by omega), by omega, fun i hi => ?_⟩
          by_cases e : i = k
          · subst e; simpa using hz
          · exact hk i (by omega)
      · refine h _ ?_
        exact .inl ⟨rfl, fun i hi => hk i (by (try simp only [nc] at *); omega)⟩
  · exact h.elim
end Go.Proofs.YtmndbhgbngkakaaDoor.Z
