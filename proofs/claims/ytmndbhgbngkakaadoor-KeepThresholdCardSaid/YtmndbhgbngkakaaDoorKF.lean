/- KeepFirst and KeepCuts, walked. No condition. -/
import Derived.Test.YtmndbhgbngkakaaDoorKE
namespace Go.Proofs.YtmndbhgbngkakaaDoor.Z
open Go Go.RowKit Go.Proofs.YtmndbhgbngkakaaDoor.E Go.Proofs.YtmndbhgbngkakaaDoor.G Go.Proofs.YtmndbhgbngkakaaDoor.K Go.Proofs.YtmndbhgbngkakaaDoor.F Go.Proofs.YtmndbhgbngkakaaDoor.M Go.Proofs.YtmndbhgbngkakaaDoor.R
open Go.Proofs.YtmndbhgbngkakaaDoorW.PrintWords hiding rd
set_option linter.all false

set_option maxRecDepth 100000
set_option maxHeartbeats 4000000
theorem awake13_ok : SpecOk EV 9 ⟨false, awakeS⟩ :=
  (flat2_spec (B := B) (L := LV) (dom := dTrue) rfl ⟨_, Tryd.func9, rfl⟩).less fun xs q _ h => by
    unfold awakeS at h
    split at h
    · exact ⟨rfl, _, rfl, rfl, h⟩
    · exact h.elim
theorem small_len' {L : List It} (h : smallB L = true) : L.length ≤ 60 := by
  unfold smallB at h
  simp only [Bool.and_eq_true, decide_eq_true_eq] at h
  exact h.1
end Go.Proofs.YtmndbhgbngkakaaDoor.Z
