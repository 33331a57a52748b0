/- The evaluator: functions that have been shown stand for what they yield. No condition but those that are written out. -/
import Derived.Test.YtmbofpmjckjceaaDoorE15
namespace Go.Proofs.YtmbofpmjckjceaaDoor.E
open Go Go.RowKit
set_option linter.unusedVariables false
set_option linter.unusedSimpArgs false
abbrev Intr := Array Value → Mem → Option (Value × Mem)
structure IntrOk (P : Program) (f : FuncId) (g : Intr) : Prop where
  a : ∀ args H v H', g args H = some (v, H') → WF H → AStp H H'
  c : ∀ base args H v H', g args H = some (v, H') → ∀ μ w args', Rl base μ H w → VRa μ args args' →
    Calls P f args' w (fun e w' => ∃ μ' v', e = .returned v' ∧ Stp base μ H w μ' H' w' ∧ VR μ' v v')
def lookI : List (FuncId × Intr) → FuncId → Option Intr
  | [], _ => none
  | (f', g) :: L, f => if f' = f then some g else lookI L f
theorem lookI_mem : ∀ (L : List (FuncId × Intr)) {f : FuncId} {g : Intr}, lookI L f = some g → (f, g) ∈ L
  | [], _, _, h => by cases h
  | (f', g') :: L, f, g, h => by
    unfold lookI at h
    split at h
    · rename_i e; subst e; cases h; exact .head _
    · exact .tail _ (lookI_mem L h)
/-- A program, its rows without a body, and what is left out. -/
structure Base where
  P : Program
  X : FuncId → Option (Array Value → Option Value)
  bad : FuncId → Bool
def Base.env (B : Base) (L : List (FuncId × Intr)) : Env := { P := B.P, X := B.X, I := lookI L, bad := B.bad }
structure Base.Ok (B : Base) : Prop where
  x : ∀ f g args v, B.X f = some g → g args = some v → args.toList.all (flat depth) = true → ∀ w, (callFunc f args).run B.P w = .ok (.value v) w ∧ flat depth v = true
  mixed : B.P.follows .mixedOrders = true
  code : progOk B.P B.bad = true
def AllOk (P : Program) (L : List (FuncId × Intr)) : Prop := ∀ f g, (f, g) ∈ L → IntrOk P f g
theorem AllOk.nil (P : Program) : AllOk P [] := fun f g h => by cases h
theorem AllOk.cons {P : Program} {f : FuncId} {g : Intr} {L : List (FuncId × Intr)} (h : IntrOk P f g) (t : AllOk P L) : AllOk P ((f, g) :: L) := fun f' g' hm => by
  cases hm with
  | head => exact h
  | tail _ hm => exact t f' g' hm
theorem Base.sound {B : Base} (h : B.Ok) {L : List (FuncId × Intr)} (hL : AllOk B.P L) (base : Nat) : Sound (B.env L) base :=
  ⟨⟨h.x, (progOk_spec h.code).2⟩, h.mixed, (progOk_spec h.code).1, fun f g hg => (hL f g (lookI_mem L hg)).a, fun f g hg => (hL f g (lookI_mem L hg)).c base⟩
theorem Stp.of_below {base : Nat} {μ : Mp} {H : Mem} {w w' : World} (R : Rl base μ H w) (b : Below w.heap.size w w') : Stp base μ H w μ H w' :=
  ⟨R.world b.size b.block, .refl μ, (fun i m h h' => by rw [h] at h'; cases h'), Nat.le_refl _, (fun _ _ => rfl), (fun _ _ _ => rfl), (fun _ _ _ => rfl), Nat.le_refl _, fun B hB _ => b.block B hB, b.os, b.tape, b.output, b.size⟩
/-- A function of numbers and texts, to numbers and texts. -/
def flatI (dom : List Value → Option Value) : Intr := fun args H =>
  if args.toList.all (flat depth) then
    match dom args.toList with
    | some v => if flat depth v then some (v, H) else none
    | none => none
  else none
theorem flatI_ok {B : Base} (hB : B.Ok) {L : List (FuncId × Intr)} (hL : AllOk B.P L) {f : FuncId} {dom : List Value → Option Value} (h : ∀ args v, dom args = some v → ∃ n H1, evCall (B.env L) n f args.toArray M0 = some (v, H1)) : IntrOk B.P f (flatI dom) := by
  refine ⟨fun args H v H' hg _ => ?_, fun base args H v H' hg μ w args' R ha => ?_⟩
  · unfold flatI at hg
    split at hg
    · split at hg
      · split at hg
        · cases hg; exact .refl _
        · cases hg
      · cases hg
    · cases hg
  · unfold flatI at hg
    split at hg
    · rename_i hf
      split at hg
      · rename_i v' hd
        split at hg
        · rename_i hv
          cases hg
          have he : args' = args := Array.ext' (flats_eq ha hf)
          subst he
          obtain ⟨n, H1, hn⟩ := h _ _ hd
          rw [Array.toArray_toList] at hn
          have := law_calls (E := B.env L) (fun base => B.sound hB hL base) hn hv (Rl.m0 w) (fun i m h => by cases h) (args' := args') ⟨rfl, fun i x y a b => by
            rw [a] at b; cases b
            exact VR.of_flat _ depth (List.all_eq_true.1 hf x (List.mem_of_getElem? a))⟩
          refine this.mono fun e w' => ?_
          rintro ⟨rfl, hb⟩
          exact ⟨μ, v, rfl, .of_below R hb, VR.of_flat μ depth hv⟩
        · cases hg
      · cases hg
    · cases hg
/-- The same, of a contract that is there already. -/
theorem flatC_ok {P : Program} {f : FuncId} {dom : List Value → Option Value} (h : ∀ args v, dom args = some v → ∀ w, Calls P f args.toArray w (fun e w' => e = .returned v ∧ Below w.heap.size w w')) : IntrOk P f (flatI dom) := by
  refine ⟨fun args H v H' hg _ => ?_, fun base args H v H' hg μ w args' R ha => ?_⟩
  · unfold flatI at hg
    split at hg
    · split at hg
      · split at hg
        · cases hg; exact .refl _
        · cases hg
      · cases hg
    · cases hg
  · unfold flatI at hg
    split at hg
    · rename_i hf
      split at hg
      · rename_i v' hd
        split at hg
        · rename_i hv
          cases hg
          have he : args' = args := Array.ext' (flats_eq ha hf)
          subst he
          have := h _ _ hd w
          rw [Array.toArray_toList] at this
          refine this.mono fun e w' => ?_
          rintro ⟨rfl, hb⟩
          exact ⟨μ, v, rfl, .of_below R hb, VR.of_flat μ depth hv⟩
        · cases hg
      · cases hg
    · cases hg
end Go.Proofs.YtmbofpmjckjceaaDoor.E
