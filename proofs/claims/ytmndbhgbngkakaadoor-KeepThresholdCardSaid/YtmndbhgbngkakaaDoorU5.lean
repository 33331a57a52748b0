/- Items over plain data. No condition. -/
import Derived.Test.YtmndbhgbngkakaaDoorUX
import Derived.Test.YtmndbhgbngkakaaDoorUA
import Derived.Test.YtmndbhgbngkakaaDoorUB
namespace Go.Proofs.YtmndbhgbngkakaaDoor.Z
open Go Go.RowKit Go.Proofs.YtmndbhgbngkakaaDoor.E Go.Proofs.YtmndbhgbngkakaaDoor.G Go.Proofs.YtmndbhgbngkakaaDoor.K Go.Proofs.YtmndbhgbngkakaaDoor.F Go.Proofs.YtmndbhgbngkakaaDoor.M Go.Proofs.YtmndbhgbngkakaaDoor.R
open Go.Proofs.YtmndbhgbngkakaaDoorW.PrintWords hiding rd
set_option linter.all false

set_option maxRecDepth 100000
set_option maxHeartbeats 4000000
def it1 (g : Lz → It → FV) (A : Lz) (args : List FV) (q : FV → FV → Prop) : Prop :=
  match args with
  | [.agg [.str k, .int .u64 u, .int .u64 w]] => (A _ fun _ => It.ok ⟨k, u, w⟩) ∧ q (g A ⟨k, u, w⟩) .dead
  | _ => False
def it2 (g : Lz → It → It → FV) (A : Lz) (args : List FV) (q : FV → FV → Prop) : Prop :=
  match args with
  | [.agg [.str k, .int .u64 u, .int .u64 w], .agg [.str k', .int .u64 u', .int .u64 w']] => (A _ fun _ => It.ok ⟨k, u, w⟩ ∧ It.ok ⟨k', u', w'⟩) ∧ q (g A ⟨k, u, w⟩ ⟨k', u', w'⟩) .dead
  | _ => False
theorem dChk_eq {k : ByteArray} {u w : Int} (h : It.ok ⟨k, u, w⟩) : dChk [item k u w] = some (.int .i64 (chkIt ⟨k, u, w⟩)) := by
  simp only [dChk, asItem_item h.1 h.2]
  rfl
theorem check_ok : SpecOk EV 11 ⟨false, it1 fun A x => .int .i64 (A _ fun _ => chkIt x)⟩ :=
  (flat2_spec (B := B) (L := LV) (dom := dChk) rfl ⟨_, Tryd.func11, rfl⟩).less fun xs q _ h => by
    unfold it1 at h
    split at h
    · obtain ⟨hx, h⟩ := h
      refine ⟨rfl, .int .i64 (chkIt _), ?_, rfl, h⟩
      exact dChk_eq hx
    · exact h.elim
theorem rcmp_eq {k k' : ByteArray} {u w u' w' : Int} (h : It.ok ⟨k, u, w⟩) (h' : It.ok ⟨k', u', w'⟩) : rcmp k u w k' u' w' = cmpIt ⟨k, u, w⟩ ⟨k', u', w'⟩ := by
  unfold rcmp cmpIt
  rw [full_ord h.1 h'.2 h'.1 h.2]
  rfl
theorem dRank_eq {k k' : ByteArray} {u w u' w' : Int} (h : It.ok ⟨k, u, w⟩) (h' : It.ok ⟨k', u', w'⟩) : dRank [item k u w, item k' u' w'] = some (.int .i64 (cmpIt ⟨k, u, w⟩ ⟨k', u', w'⟩)) := by
  simp only [dRank, asItem_item h.1 h.2, asItem_item h'.1 h'.2, rcmp_eq h h']
theorem cmpIt_ok : SpecOk EV 18 ⟨false, it2 fun A x y => .int .i64 (A _ fun _ => cmpIt x y)⟩ :=
  (flat2_spec (B := B) (L := LV) (dom := dRank) rfl ⟨_, Tryd.func18, rfl⟩).less fun xs q _ h => by
    unfold it2 at h
    split at h
    · obtain ⟨⟨hx, hy⟩, h⟩ := h
      refine ⟨rfl, .int .i64 (cmpIt _ _), ?_, rfl, h⟩
      exact dRank_eq hx hy
    · exact h.elim
def awakeS (A : Lz) (args : List FV) (q : FV → FV → Prop) : Prop :=
  match args with
  | [] => q (.bool true) .dead
  | _ => False
end Go.Proofs.YtmndbhgbngkakaaDoor.Z
