/- Items, plainly: their order. No condition. -/
import Derived.Test.YtmndbhgbngkakaaDoorUA
import Derived.Lib.Bytealg
namespace Go.Proofs.YtmndbhgbngkakaaDoor.Z
open Go Go.Proofs.YtmndbhgbngkakaaDoor.K Go.Proofs.YtmndbhgbngkakaaDoor.F Go.Proofs.YtmndbhgbngkakaaDoor.M Go.Proofs.YtmndbhgbngkakaaDoor.R
set_option linter.all false

/-- An item. -/
structure It where
  key : ByteArray
  u : Int
  w : Int
  deriving DecidableEq
def It.ok (x : It) : Prop := u64b x.u ∧ u64b x.w
/-- How texts stand to one another. -/
def cmpB (a b : ByteArray) : Int := Lib.compareBytes a.data.toList b.data.toList
theorem compare_less : ∀ a b : List UInt8, Lib.compareBytes a b = if Op.bytesLess a b = true then -1 else if a = b then 0 else 1
  | [], [] => rfl
  | [], _ :: _ => rfl
  | _ :: _, [] => by simp [Lib.compareBytes, Op.bytesLess]
  | a :: as, b :: bs => by
    unfold Lib.compareBytes Op.bytesLess
    rw [compare_less as bs]
    by_cases h1 : a < b
    · simp [h1]
    · by_cases h2 : b < a
      · have hne : a ≠ b := fun e => by subst e; exact h1 h2
        simp [h1, h2, hne]
      · have e : a = b := UInt8.le_antisymm (UInt8.not_lt.1 h2) (UInt8.not_lt.1 h1)
        subst e
        simp [h1]
theorem ba_ext {a b : ByteArray} (h : a.data.toList = b.data.toList) : a = b := by
  cases a; cases b
  simp only [ByteArray.mk.injEq]
  exact Array.ext' h
theorem cmpB_eq (a b : ByteArray) : cmpB a b = if Op.bytesLess a.toList b.toList = true then -1 else if a = b then 0 else 1 := by
  unfold cmpB
  rw [compare_less, Lib.toList_data, Lib.toList_data]
  congr 1
  by_cases h : a = b
  · subst h; simp
  · have : a.data.toList ≠ b.data.toList := fun e => h (ba_ext e)
    simp [h, this]
/-- Who stands ahead. -/
def cmpIt (x y : It) : Int := if ordI (x.u * y.w) (y.u * x.w) ≠ 0 then ordI (x.u * y.w) (y.u * x.w) else cmpB x.key y.key
/-- May it be? -/
def chkIt (x : It) : Int := if 64 < (x.key.size : Int) then 5 else if x.w = 0 then 7 else 0
def mayIt (x : It) : Bool := decide ((x.key.size : Int) ≤ 64) && decide (0 < x.w)
theorem may_chk {x : It} (h : x.ok) : mayIt x = decide (chkIt x = 0) := by
  obtain ⟨_, h0, _⟩ := h
  unfold mayIt chkIt
  by_cases h1 : 64 < (x.key.size : Int)
  · simp [h1]; omega
  · by_cases h2 : x.w = 0
    · simp [h1, h2]
    · simp [h1, h2]; omega
end Go.Proofs.YtmndbhgbngkakaaDoor.Z
