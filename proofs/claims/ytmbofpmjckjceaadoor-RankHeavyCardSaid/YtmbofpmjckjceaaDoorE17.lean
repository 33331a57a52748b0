/- The evaluator: what its parts yield, one by one. No condition but those that are written out. -/
import Derived.Test.YtmbofpmjckjceaaDoorE16
import Derived.Lib.Bytealg
namespace Go.Proofs.YtmbofpmjckjceaaDoor.E
open Go Go.RowKit
set_option linter.unusedVariables false
set_option linter.unusedSimpArgs false
theorem evCall_eq (E : Env) (n : Nat) (f : FuncId) (args : Array Value) (H : Mem) : evCall E (n + 1) f args H =
    match E.I f with
    | some g => g args H
    | none =>
      if E.bad f then none else
      match E.P.funcs[f]? with
      | none => none
      | some fn =>
        match fn.body with
        | none => none
        | some c =>
          if fn.ntmps < args.size then none else
          match evCode E (evCall E n) n c (initT 0 args.toList .nil, H) with
          | some (.norm, T, H') | some (.ret, T, H') => (ressV E.P T H' fn.results.toList).map fun v => (v, H')
          | _ => none := by
  rw [evCall]
  rfl
@[simp] theorem range1 : List.range 1 = [0] := rfl
@[simp] theorem range2 : List.range 2 = [0, 1] := rfl
@[simp] theorem range3 : List.range 3 = [0, 1, 2] := rfl
@[simp] theorem range4 : List.range 4 = [0, 1, 2, 3] := rfl
@[simp] theorem range5 : List.range 5 = [0, 1, 2, 3, 4] := rfl
@[simp] theorem range6 : List.range 6 = [0, 1, 2, 3, 4, 5] := rfl
@[simp] theorem range7 : List.range 7 = [0, 1, 2, 3, 4, 5, 6] := rfl
@[simp] theorem range8 : List.range 8 = [0, 1, 2, 3, 4, 5, 6, 7] := rfl
@[simp] theorem range9 : List.range 9 = [0, 1, 2, 3, 4, 5, 6, 7, 8] := rfl
@[simp] theorem range10 : List.range 10 = [0, 1, 2, 3, 4, 5, 6, 7, 8, 9] := rfl
@[simp] theorem range11 : List.range 11 = [0, 1, 2, 3, 4, 5, 6, 7, 8, 9, 10] := rfl
@[simp] theorem range12 : List.range 12 = [0, 1, 2, 3, 4, 5, 6, 7, 8, 9, 10, 11] := rfl
@[simp] theorem wrap_in {n : Int} (h : -9223372036854775808 ≤ n) (h' : n ≤ 9223372036854775807) : IntKind.i64.wrap n = n := IntWalk.i64_in n ⟨h, h'⟩
theorem iter_succ {S : Type} (f : S → Option (Ex × S)) (n : Nat) (s : S) : iter f (n + 1) s = match f s with | some (.norm, s') => iter f n s' | r => r := rfl
section
variable {P : Program} {t : TypeId} {x y : Operand} {k : IntKind} {a b : Int}
theorem bin_pure {op : BinOp} {u v : Value} {r : Value} (hu : flat depth u = true) (hv : flat depth v = true) (h : pureRun P (do eqGuard op t x y u v; binOp op t u v) = some r) (hr : flat depth r = true) : binV P op t x y u v = some r := by
  unfold binV pureV; simp [hu, hv, h, hr]
@[simp] theorem bin_lss : binV P .lss t x y (.int k a) (.int k b) = some (.bool (decide (a < b))) := bin_pure rfl rfl (by cases k <;> rfl) rfl
@[simp] theorem bin_gtr : binV P .gtr t x y (.int k a) (.int k b) = some (.bool (decide (b < a))) := bin_pure rfl rfl (by cases k <;> rfl) rfl
@[simp] theorem bin_leq : binV P .leq t x y (.int k a) (.int k b) = some (.bool (decide (a ≤ b))) := bin_pure rfl rfl (by cases k <;> rfl) rfl
@[simp] theorem bin_geq : binV P .geq t x y (.int k a) (.int k b) = some (.bool (decide (b ≤ a))) := bin_pure rfl rfl (by cases k <;> rfl) rfl
@[simp] theorem bin_eql : binV P .eql t x y (.int k a) (.int k b) = some (.bool (decide (a = b))) := bin_pure rfl rfl (by cases k <;> rfl) rfl
@[simp] theorem bin_neq : binV P .neq t x y (.int k a) (.int k b) = some (.bool (!decide (a = b))) := bin_pure rfl rfl (by cases k <;> rfl) rfl
@[simp] theorem bin_add : binV P .add t x y (.int k a) (.int k b) = some (.int k (k.wrap (a + b))) := bin_pure rfl rfl (by cases k <;> rfl) rfl
@[simp] theorem bin_sub : binV P .sub t x y (.int k a) (.int k b) = some (.int k (k.wrap (a - b))) := bin_pure rfl rfl (by cases k <;> rfl) rfl
@[simp] theorem bin_mul : binV P .mul t x y (.int k a) (.int k b) = some (.int k (k.wrap (a * b))) := bin_pure rfl rfl (by cases k <;> rfl) rfl
theorem pureRun_bind {α β : Type} (s : Sem α) (f : α → Sem β) : pureRun P (s >>= f) = (pureRun P s).bind fun a => pureRun P (f a) := by
  show pureRun P (s.bind f) = _
  induction s with
  | pure a => rfl
  | program k ih => simp only [Sem.bind, pureRun, ih]
  | mark m k ih => simp only [Sem.bind, pureRun, ih]
  | _ => rfl
theorem pureRun_underlying {d : TypeDesc} (h : P.underlying t = some d) : pureRun P (underlying t) = some d := by
  unfold underlying
  rw [pureRun_bind]
  show (pureRun P (match P.underlying t with | some d => pure d | none => stuck "no such type")) = _
  rw [h]; rfl
theorem bin_eqb {p q : Bool} (h : P.underlying t = some .bool) : binV P .eql t x y (.bool p) (.bool q) = some (.bool (p == q)) := by
  refine bin_pure rfl rfl ?_ rfl
  have e : pureRun P (do eqGuard .eql t x y (.bool p) (.bool q); binOp .eql t (.bool p) (.bool q)) = pureRun P (Op.equal t (.bool p) (.bool q) >>= fun r => pure (.bool r)) := rfl
  obtain ⟨d, hd⟩ : ∃ d, Op.equal t (.bool p) (.bool q) = Op.equalIn (d + 1) t (.bool p) (.bool q) := ⟨9999, rfl⟩
  rw [e, pureRun_bind, hd]
  unfold Op.equalIn
  rw [pureRun_bind, pureRun_underlying h]
  rfl
theorem bytes_eq (p q : ByteArray) : (p.toList == q.toList) = decide (p = q) := by
  rw [Bool.eq_iff_iff]
  simp only [beq_iff_eq, decide_eq_true_eq]
  refine ⟨fun h => ?_, fun h => by rw [h]⟩
  rw [Lib.toList_data, Lib.toList_data] at h
  cases p; cases q
  simp only [ByteArray.mk.injEq]
  exact Array.ext' h
@[simp] theorem bin_eqs {p q : ByteArray} : binV P .eql t x y (.string p) (.string q) = some (.bool (decide (p = q))) := by rw [← bytes_eq]; exact bin_pure rfl rfl rfl rfl
@[simp] theorem bin_nes {p q : ByteArray} : binV P .neq t x y (.string p) (.string q) = some (.bool (!decide (p = q))) := by rw [← bytes_eq]; exact bin_pure rfl rfl rfl rfl
@[simp] theorem bin_lts {p q : ByteArray} : binV P .lss t x y (.string p) (.string q) = some (.bool (Op.bytesLess p.toList q.toList)) := bin_pure rfl rfl rfl rfl
@[simp] theorem bin_gts {p q : ByteArray} : binV P .gtr t x y (.string p) (.string q) = some (.bool (!(Op.bytesLess p.toList q.toList || p.toList == q.toList))) := bin_pure rfl rfl rfl rfl
end
end Go.Proofs.YtmbofpmjckjceaaDoor.E
