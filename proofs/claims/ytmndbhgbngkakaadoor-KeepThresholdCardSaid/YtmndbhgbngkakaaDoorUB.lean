/- Items, plainly: their order. No condition. -/
import Derived.Test.YtmndbhgbngkakaaDoorUA
import Derived.Lib.Bytealg
namespace Go.Proofs.YtmndbhgbngkakaaDoor.Z
open Go Go.Proofs.YtmndbhgbngkakaaDoor.K Go.Proofs.YtmndbhgbngkakaaDoor.F Go.Proofs.YtmndbhgbngkakaaDoor.M Go.Proofs.YtmndbhgbngkakaaDoor.R
set_option linter.all false

/-- An item. -/
structure It where
  key : ByteArray
  u : Int
  w : Int
  deriving DecidableEq
def It.ok (x : It) : Prop := u64b x.u ∧ u64b x.w
/-- How texts stand to one another. -/
def cmpB (a b : ByteArray) : Int := Lib.compareBytes a.data.toList b.data.toList
theorem ba_ext {a b : ByteArray} (h : a.data.toList = b.data.toList) : a = b := by
  cases a; cases b
  simp only [ByteArray.mk.injEq]
  exact Array.ext' h
/-- Who stands ahead. -/
def cmpIt (x y : It) : Int := if ordI (x.u * y.w) (y.u * x.w) ≠ 0 then ordI (x.u * y.w) (y.u * x.w) else cmpB x.key y.key
/-- May it be? -/
def chkIt (x : It) : Int := if 64 < (x.key.size : Int) then 5 else if x.w = 0 then 7 else 0
def mayIt (x : It) : Bool := decide ((x.key.size : Int) ≤ 64) && decide (0 < x.w)
theorem may_chk {x : It} (h : x.ok) : mayIt x = decide (chkIt x = 0) := by
  obtain ⟨_, h0, _⟩ := h
  unfold mayIt chkIt
  by_cases h1 : 64 < (x.key.size : Int)
  · simp [h1]; omega
  · by_cases h2 : x.w = 0
    · simp [h1, h2]
    · simp [h1, h2]; omega
end Go.Proofs.YtmndbhgbngkakaaDoor.Z
