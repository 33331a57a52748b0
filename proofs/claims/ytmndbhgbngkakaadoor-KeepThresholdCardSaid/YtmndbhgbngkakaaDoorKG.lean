/- KeepStays, walked. No condition. -/
import Derived.Test.YtmndbhgbngkakaaDoorKF
namespace Go.Proofs.YtmndbhgbngkakaaDoor.Z
open Go Go.RowKit Go.Proofs.YtmndbhgbngkakaaDoor.E Go.Proofs.YtmndbhgbngkakaaDoor.G Go.Proofs.YtmndbhgbngkakaaDoor.K Go.Proofs.YtmndbhgbngkakaaDoor.F Go.Proofs.YtmndbhgbngkakaaDoor.M Go.Proofs.YtmndbhgbngkakaaDoor.R
open Go.Proofs.YtmndbhgbngkakaaDoorW.PrintWords hiding rd
set_option linter.all false

set_option maxRecDepth 100000
set_option maxHeartbeats 4000000
theorem right_add {k : Nat} {L : List It} {x : It} {M : List It} (hL : ∀ x ∈ L, x.ok) (hr : rightB k L = true) (hx : x.ok) (hc : chkIt x = 0) (h : addR k L x M) :
    ∃ (S T : List Gi) (y : Gi), L = gs S ∧ y.1 = x ∧ Srtd cG S ∧ Uq gk S ∧ S.length ≤ k + 1 ∧ Upd cG gk S y T ∧ M = gs (T.take (k + 1)) := by
  obtain ⟨h1, h2, h3, S, rfl, h4, h5⟩ := (right_gs hL).1 hr
  rw [gs_len] at h2
  have hw : 0 < x.w := by
    have h6 := may_chk hx
    rw [hc] at h6
    unfold mayIt at h6
    simp only [decide_true, Bool.and_eq_true, decide_eq_true_eq] at h6
    exact h6.2
  have hS : S.take (k + 1) = S := List.take_of_length_le (by omega)
  obtain ⟨T, hT, e⟩ := add_gs (x := ⟨x, hx, hw⟩) h4 h5 (by rw [hS]; exact h)
  exact ⟨S, T, ⟨x, hx, hw⟩, rfl, rfl, h4, h5, by omega, hT, e⟩
def kStaysRun (A : Lz) (args : List FV) (q : FV → FV → Prop) : Prop :=
  match args with
  | [.int .i64 k, .row (.agg [.str, .int .u64, .int .u64]) l, .agg [.str kk, .int .u64 u, .int .u64 w]] => ∃ L : List It, (l = its L ∧ (∀ x ∈ L, x.ok) ∧ It.ok ⟨kk, u, w⟩) ∧ q (.bool true) .dead
  | _ => False
end Go.Proofs.YtmndbhgbngkakaaDoor.Z
