/- Words of the plain functions. No condition. -/
import Derived.RowKit
import Derived.RowKit3
import Derived.Laws.BytesArg
import Derived.Laws.BitsLemmas
import Derived.Laws.Bits64
import Derived.Lib.Bytealg
import Derived.Lib.BitFns
import Derived.Lib.SlTrimSet
import Derived.Laws.MathBits
import Derived.KernelRfl
namespace Go.Proofs.YtmndbhgbngkakaaDoorW.PrintLast
end Go.Proofs.YtmndbhgbngkakaaDoorW.PrintLast
namespace Go.Proofs.YtmndbhgbngkakaaDoorW.PrintMore
end Go.Proofs.YtmndbhgbngkakaaDoorW.PrintMore
namespace Go.Proofs.YtmndbhgbngkakaaDoorW.PrintWords
open Go.RowKit
set_option linter.all false
def rd (xs : List Int) (i : Int) : Int := xs.getD i.toNat 0
/-- The greater of two whole numbers, as Go's max tells it. -/
def mx (a b : Int) : Int := if a < b then b else a
/-- The smaller of two whole numbers, as Go's min tells it. -/
def mn (a b : Int) : Int := if b < a then b else a
/-- A shift to the left, as Go tells it: a count beyond the width leaves nothing. -/
def shl (k : IntKind) (x y : Int) : Int := k.wrap (x * 2 ^ min y.toNat k.bits)
/-- A shift to the right: a count beyond the width leaves the sign. -/
def shr (k : IntKind) (x y : Int) : Int := x / 2 ^ min y.toNat k.bits
/-! ### From some number of rounds on -/
def Ev {α : Type} (g : Nat → Option α) (r : α) : Prop := ∃ K, ∀ k, K ≤ k → g k = some r
theorem Ev.now {α : Type} (r : α) : Ev (fun _ => some r) r := ⟨0, fun _ _ => rfl⟩
theorem Ev.bind {α β : Type} {g : Nat → Option α} {f : Nat → α → Option β} {a : α} {r : β} (h : Ev g a) (k : Ev (fun n => f n a) r) : Ev (fun n => (g n).bind (f n)) r := by
  obtain ⟨K, h⟩ := h
  obtain ⟨K', k⟩ := k
  refine ⟨max K K', fun n hn => ?_⟩
  have h1 := h n (by omega)
  have h2 := k n (by omega)
  simp only [h1, Option.bind_some]
  exact h2
/-- One round of a loop. -/
theorem Ev.step {α : Type} {g f : Nat → Option α} {r : α} (h : ∀ k, g (k + 1) = f k) (k : Ev f r) : Ev g r := by
  obtain ⟨K, k⟩ := k
  refine ⟨K + 1, fun n hn => ?_⟩
  obtain ⟨m, rfl⟩ : ∃ m, n = m + 1 := ⟨n - 1, by omega⟩
  rw [h]
  exact k m (by omega)
theorem Ev.congr {α : Type} {g f : Nat → Option α} {r : α} (h : ∀ k, g k = f k) (k : Ev f r) : Ev g r := by
  obtain ⟨K, k⟩ := k
  exact ⟨K, fun n hn => (h n).trans (k n hn)⟩
end Go.Proofs.YtmndbhgbngkakaaDoorW.PrintWords
