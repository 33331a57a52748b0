/- The evaluator's operations and the model's: the builtins. No condition. -/
import Derived.Test.YtmbofpmjckjceaaDoorE6
import Derived.IntWalk
import Derived.Laws.NewFold
namespace Go.Proofs.YtmbofpmjckjceaaDoor.E
open Go Go.RowKit
set_option linter.unusedVariables false
set_option linter.unusedSimpArgs false
section
variable {base : Nat} {μ : Mp} {H H' : Mem} {w : World} {P : Program}
theorem elemT_some {t e : TypeId} (h : elemT P t = some e) : P.underlying t = some (.slice e) := by
  unfold elemT at h
  split at h
  · rename_i e' hu; cases h; exact hu
  · cases h
/-- append, once its second argument is told. -/
def appCore (size : Nat) (elem : TypeId) (zeros : Bool) (base : Option Addr) (sLen sCap n : Nat) (s x : Value) (appended : Sem (Array Value)) : Sem Value := do
  let need := sLen + n
  if need ≤ sCap then
    let new ← appended
    if let some a := base then storeCells (a.add (sLen * size)) new.toList
    pure (.slice base need sCap)
  else
    if (need : Int) > IntKind.i64.max ∧ (zeros ∨ (← typeInfo elem).bytes = 0) then runtimePanic (.error "growslice: len out of range")
    if Builtin.nextslicecap need sCap * (← typeInfo elem).bytes > 2 ^ 48 then (if zeros then runtimePanic (.error "growslice: len out of range") else do
      if !(← Builtin.mayShare size sLen n base x) then mark .noRoom
      unsupported (.resourceLimit "append: a slice or a string whose bytes no memory bears"))
    let newCap ← choose (.appendCap need sCap elem)
    askRoom (newCap * (← typeInfo elem).bytes)
    let old ← Builtin.firstCells size sLen s
    let new ← appended
    let rest := Builtin.zeroCells (← zeroValue elem).cells (newCap - need)
    pure (.slice (some (← newRow elem (old ++ new ++ rest))) need newCap)
theorem append_plain {ts : Array TypeId} {ty el t0 t1 : TypeId} {d1 : TypeDesc} {e : Nat} {base : Option Addr} {n c k : Nat} {x : Value} (h0 : ts[0]? = some t0) (hu0 : P.underlying t0 = some (.slice el))
    (h1 : ts[1]? = some t1) (hu1 : P.underlying t1 = some d1) (hi : isIntD d1 = false) (he : tsz P el = some e) (hl : (Builtin.lenOf x).run P w = .ok k w) :
    (Builtin.append_ ts ty #[.slice base n c, x]).run P w = (appCore e el false base n c k (.slice base n c) x (Builtin.firstCells e k x)).run P w := by
  cases d1 <;> first
    | (simp [isIntD] at hi; done)
    | (simp only [Builtin.append_, h0, h1, Sem.run_bind, run_underlying hu0, run_underlying hu1, run_size' he, Result.andThen_ok, Sem.run_pure, List.getElem?_toArray, List.getElem?_cons_zero, List.getElem?_cons_succ, hl, Bool.false_eq_true, if_false, appCore, Bool.not_false, if_true, false_or]
       cases base <;> rfl)
theorem append_zeros {ts : Array TypeId} {ty el t0 t1 : TypeId} {d1 : TypeDesc} {e : Nat} {base : Option Addr} {n c k : Nat} {kk : IntKind} {inf : TypeInfo} (h0 : ts[0]? = some t0) (hu0 : P.underlying t0 = some (.slice el))
    (h1 : ts[1]? = some t1) (hu1 : P.underlying t1 = some d1) (hi : isIntD d1 = true) (he : tsz P el = some e) (hti : (typeInfo el).run P w = .ok inf w) (hk : k ≤ maxRoom) (hkb : k * inf.bytes ≤ maxRoom) :
    (Builtin.append_ ts ty #[.slice base n c, .int kk k]).run P w = (appCore e el true base n c k (.slice base n c) (.int kk k) (if k * e = 0 then pure #[] else do pure (Builtin.zeroCells (← zeroValue el).cells k))).run P w := by
  have hmr : maxRoom = 35184372088832 := rfl
  obtain ⟨dk, rfl⟩ : ∃ dk, d1 = .int dk := by cases d1 <;> first | exact ⟨_, rfl⟩ | simp [isIntD] at hi
  have hw : IntKind.i64.wrap (k : Int) = k := IntWalk.i64_in _ (by omega)
  have hb2 : ¬ ((k : Int) * inf.bytes > 2 ^ 48) := by
    rw [← Int.natCast_mul]
    generalize k * inf.bytes = q at hkb
    omega
  have hneg : ¬ ((k : Int) < 0) := by omega
  simp only [Builtin.append_, h0, h1, Sem.run_bind, run_underlying hu0, run_underlying hu1, run_size' he, Result.andThen_ok, Sem.run_pure, List.getElem?_toArray, List.getElem?_cons_zero, List.getElem?_cons_succ, if_true, asInt, asIntOf, hw, hneg, if_false, hti, hb2, Int.toNat_natCast, Bool.not_true, Bool.false_eq_true, appCore, if_true]
  cases base <;> rfl
theorem append_tail (R : Rl base μ H w) {el : TypeId} {e bytes k : Nat} {z s s' x' v : Value} {new new' : List Value} {zeros : Bool} {app : Sem (Array Value)} (he : tsz P el = some e) (hb : tbytes P el = some bytes) (hz : tzero P el = some z) (hze : z.cells.size = e) (hs : VR μ s s') (hv : VRs μ new new')
    (happ : ∀ w1 : World, w1.heap = w.heap → app.run P w1 = .ok new'.toArray w1)
    (h : appendV H e bytes s new k = some (v, H')) :
    ∃ bs n c, s' = .slice bs n c ∧ ∃ μ' v' w', (appCore e el zeros bs n c k s' x' app).run P w = .ok v' w' ∧ Stp base μ H w μ' H' w' ∧ VR μ' v v' := by
  obtain ⟨bs, n, c, rfl⟩ : ∃ bs n c, s = .slice bs n c := by
    cases s with
    | slice bs n c => exact ⟨bs, n, c, rfl⟩
    | _ => simp [appendV] at h
  have hzr' : ∀ w, (zeroValue el).run P w = .ok z w := fun w => (run_zero' hz w).1
  obtain ⟨inf, hin⟩ : ∃ i, P.info? el = some i := by
    unfold tsz at he
    cases hi : P.info? el with
    | none => simp [hi] at he
    | some i => exact ⟨i, rfl⟩
  have hti : ∀ w, (typeInfo el).run P w = .ok inf w := fun w => by simp [typeInfo, hin]
  have hby : inf.bytes = bytes := by unfold tbytes at hb; simpa [hin] using hb
  obtain ⟨bs', n', c', hs', r1, r2, r3, he0, hroom, hgrow⟩ := appendV_ok (P := P) R el (fun nc => (Builtin.zeroCells z.cells (nc - (n + k))).toList) hs hv h
  obtain ⟨bs2, c2, hs2⟩ := hs.slice_cases
  rw [hs'] at hs2
  simp only [Value.slice.injEq] at hs2
  obtain ⟨rfl, hnn, rfl⟩ := hs2
  subst hnn
  subst hs'
  refine ⟨bs', n', c', rfl, ?_⟩
  have hmr : maxRoom = 35184372088832 := rfl
  by_cases hfit : n' + k ≤ c'
  · obtain ⟨w', μ', hst, S, hr⟩ := hroom hfit
    refine ⟨μ', _, w', ?_, S, hr⟩
    cases bs' with
    | none =>
      subst hst
      simp only [appCore, hfit, if_true, Sem.run_bind, happ _ rfl, Result.andThen_ok, Sem.run_pure]
    | some a =>
      simp only at hst
      simp only [appCore, hfit, if_true, Sem.run_bind, happ _ rfl, Result.andThen_ok, Sem.run_pure, hst]
  · obtain ⟨old', ho, hnew⟩ := hgrow (by omega)
    obtain ⟨nc, hnc, hcut⟩ : ∃ nc, n' + k ≤ nc ∧ (Question.appendCap (n' + k) c' el).cut (w.tape w.drawn (.appendCap (n' + k) c' el)) = nc := ⟨_, by simp [Question.cut], rfl⟩
    obtain ⟨μ', S, hr⟩ := hnew nc hnc (by simp [Builtin.zeroCells, hze])
    refine ⟨μ', _, _, ?_, S, hr⟩
    have hmax : ¬ (((n' + k : Nat) : Int) > IntKind.i64.max) := by
      simp [IntKind.max, IntKind.signed, IntKind.bits]; omega
    have hgs : ¬ (Builtin.nextslicecap (n' + k) c' * inf.bytes > 2 ^ 48) := by
      have := growslice_fits (need := n' + k) (old := c') (bytes := inf.bytes) (by omega) (by rw [hby]; omega)
      omega
    have hch : (choose (.appendCap (n' + k) c' el)).run P w = .ok nc w.drew := by
      rw [run_choose]; simp [Question.forced, hcut]
    simp only [appCore, hfit, if_false, Sem.run_bind, hti, Result.andThen_ok, hmax, false_and, hgs, hch, run_askRoom, ho w.drew rfl, happ w.drew rfl, hzr', newRow, run_newObj_alloc, Sem.run_pure]
    congr 2
    congr 1
    apply Array.ext'
    simp
end
end Go.Proofs.YtmbofpmjckjceaaDoor.E
