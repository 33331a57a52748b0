/- The evaluator's operations and the model's: all builtins. No condition. -/
import Derived.Test.YtmbofpmjckjceaaDoorE7
namespace Go.Proofs.YtmbofpmjckjceaaDoor.E
open Go Go.RowKit
set_option linter.unusedVariables false
set_option linter.unusedSimpArgs false
section
variable {base : Nat} {μ : Mp} {H H' : Mem} {w : World} {P : Program}
/-- What a builtin, or any operation with a value, comes to. -/
def GoesV (base : Nat) (μ : Mp) (H : Mem) (w : World) (v : Value) (H' : Mem) (r : Result Value) : Prop := ∃ μ' v' w', r = .ok v' w' ∧ Stp base μ H w μ' H' w' ∧ VR μ' v v'
theorem GoesV.same (R : Rl base μ H w) {v v' : Value} {r : Result Value} (h : r = .ok v' w) (hv : VR μ v v') : GoesV base μ H w v H r := ⟨μ, v', w, h, .refl R, hv⟩
theorem flats_eq {xs ys : List Value} (h : VRs μ xs ys) (hf : xs.all (flat depth) = true) : ys = xs := by
  rw [List.all_eq_true] at hf
  exact (VRs.ext h.1 fun i a b ha hb => (flat_eq depth (hf a (List.mem_of_getElem? ha)) (h.2 i a b ha hb)).symm).symm
theorem zeroCells_eq (z : Array Value) (k : Nat) : Builtin.zeroCells z k = (zerosOf z (k * z.size)).toArray := by unfold Builtin.zeroCells zerosOf; rw [Array.toArray_toList]
theorem copy_ok (R : Rl base μ H w) {ts : Array TypeId} {ty el t0 : TypeId} {e dl dc sl : Nat} {bs : Option Addr} {d' s s' v : Value} {cs : List Value} (h0 : ts[0]? = some t0) (hu0 : P.underlying t0 = some (.slice el)) (he : tsz P el = some e)
    (h : (match bs with | some a => if cs = [] then some (goInt (Nat.min sl dl), H) else (wr H a.block a.off cs).map fun H' => (goInt (Nat.min sl dl), H') | none => some (goInt (Nat.min sl dl), H)) = some (v, H'))
    (hd : VR μ (.slice bs dl dc) d') (hs : VR μ s s') (hl : lenV s = some sl) (hf : firstV H e (Nat.min sl dl) s = some cs) :
    GoesV base μ H w v H' ((Builtin.copy_ ts ty #[d', s']).run P w) := by
  obtain ⟨bs', c', rfl⟩ := hd.slice_cases
  obtain ⟨cs', q1, q2⟩ := firstV_ok (P := P) R hs hl (Nat.min_le_left _ _) hf
  have hl' := lenV_ok (P := P) hs hl w
  have hq := q2 w rfl
  have run : (Builtin.copy_ ts ty #[.slice bs' dl c', s']).run P w = (match bs' with | some a => ((storeCells a cs').run P w).andThen fun _ w' => .ok (goInt (Nat.min sl dl)) w' | none => .ok (goInt (Nat.min sl dl)) w) := by
    simp only [Builtin.copy_, h0, List.getElem?_toArray, List.getElem?_cons_zero, List.getElem?_cons_succ, Sem.run_bind, run_underlying hu0, Result.andThen_ok, hl', run_size' he, hq]
    cases bs' <;> simp
  rw [run]
  cases bs with
  | none =>
    have := hd.slice_nil
    simp only [Value.slice.injEq] at this
    obtain ⟨rfl, _⟩ := this
    simp only [Option.some.injEq, Prod.mk.injEq] at h
    obtain ⟨rfl, rfl⟩ := h
    exact .same R rfl (.int _ _)
  | some a =>
    have hb : ∃ A, bs' = some A := by cases hd <;> exact ⟨_, rfl⟩
    obtain ⟨A, rfl⟩ := hb
    by_cases hn : cs = []
    · subst hn
      have : cs' = [] := q1.of_nil
      subst this
      simp only [if_true, Option.some.injEq, Prod.mk.injEq] at h
      obtain ⟨rfl, rfl⟩ := h
      exact .same R (by simp [storeCells]; rfl) (.int _ _)
    · simp only [hn, if_false] at h
      cases hw : wr H a.block a.off cs with
      | none => simp [hw] at h
      | some H1 =>
        simp [hw] at h
        obtain ⟨rfl, rfl⟩ := h
        have hdl : dl ≠ 0 := by
          intro e0
          subst e0
          have hm0 : Nat.min sl 0 = 0 := Nat.min_zero sl
          rw [hm0] at hf
          have : cs = [] := by
            unfold firstV at hf
            split at hf
            · simp at hf; first | exact hf | exact hf.symm
            · simp at hf; first | exact hf | exact hf.symm
            · rename_i s; simp at hf; first | exact hf | exact hf.symm
            · cases hf
          exact hn this
        have : ∃ m, μ a.block = some m ∧ A = m.addr a.off := by
          generalize dl = q at hd hdl
          generalize dc = q2 at hd
          cases hd with
          | sliceE hs hc hm => exact ⟨_, hm, rfl⟩
          | sliceO hs hm hl hn => exact ⟨_, hm, rfl⟩
          | sliceE0 hs hm => exact absurd rfl hdl
          | sliceO0 hs hm hl => exact absurd rfl hdl
        obtain ⟨m, hm, rfl⟩ := this
        obtain ⟨w', a1, a2⟩ := wr_ok (P := P) R hm q1 hw
        exact ⟨μ, goInt (Nat.min sl dl), w', by simp [a1], a2, .int _ _⟩
theorem clear_ok (R : Rl base μ H w) {ts : Array TypeId} {ty el t0 : TypeId} {n c : Nat} {a : Addr} {x' z : Value} (h0 : ts[0]? = some t0) (hu0 : P.underlying t0 = some (.slice el)) (hx : VR μ (.slice (some a) n c) x')
    (hn : n ≠ 0) (hz : tzero P el = some z) (h : wr H a.block a.off (zerosOf z.cells (n * z.cells.size)) = some H') :
    GoesV base μ H w (.tuple #[]) H' ((Builtin.clear_ ts ty #[x']).run P w) := by
  have : ∃ m c', μ a.block = some m ∧ x' = .slice (some (m.addr a.off)) n c' := by
    generalize c = q2 at hx
    cases hx with
    | sliceE hs hc hm => exact ⟨_, _, hm, rfl⟩
    | sliceO hs hm hl hn => exact ⟨_, _, hm, rfl⟩
    | sliceE0 hs hm => exact absurd rfl hn
    | sliceO0 hs hm hl => exact absurd rfl hn
  obtain ⟨m, c', hm, rfl⟩ := this
  obtain ⟨hzr, hzf⟩ := run_zero' hz w
  obtain ⟨w', a1, a2⟩ := wr_ok (P := P) R hm (VRs.of_flats (zerosOf_flat hzf _)) h
  refine ⟨μ, _, w', ?_, a2, .tuple rfl (fun i x y h => by simp at h)⟩
  have e : (Builtin.zeroCells z.cells n).toList = zerosOf z.cells (n * z.cells.size) := rfl
  obtain ⟨k, rfl⟩ : ∃ k, n = k + 1 := ⟨n - 1, by omega⟩
  simp only [Builtin.clear_, h0, List.getElem?_toArray, List.getElem?_cons_zero, Sem.run_bind, run_underlying hu0, Result.andThen_ok, hzr, e, a1, Sem.run_pure]
theorem builtinV_ok (R : Rl base μ H w) {b : Builtin} {ts : Array TypeId} {ty : TypeId} {consts : Array Bool} {args args' : List Value} {v : Value} (ha : VRs μ args args') (h : builtinV P H b ts ty consts args = some (v, H')) :
    ∃ μ' v' w', (builtin b ts ty consts args'.toArray).run P w = .ok (.value v') w' ∧ Stp base μ H w μ' H' w' ∧ VR μ' v v' := by
  -- len, cap: by the value; append, copy, clear: above; min, max: flat
  have lift : ∀ {s : Sem Value}, GoesV base μ H w v H' (s.run P w) → ∃ μ' v' w', (do pure (.value (← s)) : Sem Next).run P w = .ok (.value v') w' ∧ Stp base μ H w μ' H' w' ∧ VR μ' v v' := by
    intro s ⟨μ', v', w', a, b, c⟩
    exact ⟨μ', v', w', by simp [a], b, c⟩
  unfold builtinV at h
  split at h
  · -- len
    rename_i x
    obtain ⟨x', _, rfl, hx, ht⟩ := ha.of_cons
    rw [ht.of_nil]
    refine lift (s := Builtin.len_ ts ty #[x']) ?_
    cases h0 : ts[0]? with
    | none => simp [h0] at h
    | some t0 =>
      simp only [h0, Option.bind_some] at h
      split at h
      · rename_i s hu
        cases h
        rw [hx.str]
        exact .same R (by simp [Builtin.len_, h0, run_underlying hu, goInt]) (.int _ _)
      · rename_i e bs n c hu
        cases h
        obtain ⟨bs', c', rfl⟩ := hx.slice_cases
        exact .same R (by simp [Builtin.len_, h0, run_underlying hu, goInt]) (.int _ _)
      · rename_i k e hu
        cases h
        cases hx
        exact .same R (by simp [Builtin.len_, h0, run_underlying hu, goInt]) (.int _ _)
      · rename_i k e r hu
        cases hx with
        | map hm =>
          rename_i m
          cases hg : H.getMap r with
          | none => simp [hg] at h
          | some p =>
            obtain ⟨es, cl⟩ := p
            simp [hg] at h
            obtain ⟨rfl, rfl⟩ := h
            have ho : H.obs.get r = some (.map es cl) := by
              unfold Mem.getMap at hg
              split at hg
              · rename_i ho; cases hg; exact ho
              · cases hg
            obtain ⟨es', h1, h2, h3⟩ := (R.map r m es cl hm ho).ex
            refine .same R (v' := goInt es'.size) ?_ (by rw [h2]; exact .int _ _)
            simp [Builtin.len_, h0, run_underlying hu, getObj, Sem.run, h1, goInt]
      · cases h
  · -- cap
    rename_i x
    obtain ⟨x', _, rfl, hx, ht⟩ := ha.of_cons
    rw [ht.of_nil]
    refine lift (s := Builtin.cap_ ts ty #[x']) ?_
    cases h0 : ts[0]? with
    | none => simp [h0] at h
    | some t0 =>
      simp only [h0, Option.bind_some] at h
      split at h
      · rename_i e bs n c hu
        split at h
        · cases h
        · rename_i hc
          cases h
          have : ∃ bs', x' = .slice bs' n c := by
            cases bs with
            | none => exact ⟨_, hx.slice_nil⟩
            | some a =>
              obtain ⟨_, _, m, _, hy⟩ := hx.slice_exact hc
              rcases hy with rfl | ⟨A, rfl, rfl, rfl⟩
              · exact ⟨_, rfl⟩
              · exact ⟨_, rfl⟩
          obtain ⟨bs', rfl⟩ := this
          exact .same R (by simp [Builtin.cap_, h0, run_underlying hu, goInt]) (.int _ _)
      · cases h
  · -- append
    rename_i s x
    obtain ⟨s', _, rfl, hs, ht⟩ := ha.of_cons
    obtain ⟨x', _, rfl, hx, ht'⟩ := ht.of_cons
    rw [ht'.of_nil]
    refine lift (s := Builtin.append_ ts ty #[s', x']) ?_
    split at h
    · rename_i el zs he0 hz0
      cases h0 : ts[0]? with
      | none => simp [h0] at he0
      | some t0 =>
        simp only [h0, Option.bind_some] at he0
        have hu0 := elemT_some he0
        cases h1 : ts[1]? with
        | none => simp [h1] at hz0
        | some t1 =>
          simp only [h1, Option.bind_some] at hz0
          cases hu1 : P.underlying t1 with
          | none => simp [hu1] at hz0
          | some d1 =>
            simp only [hu1, Option.map_some, Option.some.injEq] at hz0
            subst hz0
            split at h
            · rename_i e bytes z he hb hz
              split at h
              · cases h
              · rename_i hze
                have hze : z.cells.size = e := Classical.byContradiction hze
                split at h
                · rename_i hi
                  split at h
                  · rename_i k hk
                    split at h
                    · rename_i hkr
                      obtain ⟨kk, rfl⟩ := idx_int hk
                      rw [hx.int']
                      obtain ⟨inf, hin⟩ : ∃ i, P.info? el = some i := by
                        unfold tsz at he
                        cases hi : P.info? el with
                        | none => simp [hi] at he
                        | some i => exact ⟨i, rfl⟩
                      have hti : ∀ w, (typeInfo el).run P w = .ok inf w := fun w => by simp [typeInfo, hin]
                      have hby : inf.bytes = bytes := by unfold tbytes at hb; simpa [hin] using hb
                      obtain ⟨bs, n, c, rfl, μ', v', w', q1, q2, q3⟩ := append_tail (P := P) (x' := .int kk k) (zeros := true) (app := if k * e = 0 then pure #[] else do pure (Builtin.zeroCells (← zeroValue el).cells k)) R he hb hz hze hs
                        (VRs.of_flats (zerosOf_flat (run_zero' hz w).2 (k * e))) (fun w1 _ => by
                          split
                          · rename_i h0'; simp [zerosOf, h0']
                          · simp only [Sem.run_bind, (run_zero' hz w1).1, Result.andThen_ok, Sem.run_pure, zeroCells_eq, hze]) h
                      exact ⟨μ', v', w', by rw [append_zeros h0 hu0 h1 hu1 hi he (hti w) hkr.1 (by rw [hby]; exact hkr.2)]; exact q1, q2, q3⟩
                    · cases h
                  · cases h
                · rename_i hi
                  have hi : isIntD d1 = false := by simpa using hi
                  split at h
                  · rename_i k hk
                    split at h
                    · rename_i new hnew
                      obtain ⟨new', n1, n2⟩ := firstV_ok (P := P) R hx hk (Nat.le_refl _) hnew
                      obtain ⟨bs, n, c, rfl, μ', v', w', q1, q2, q3⟩ := append_tail (P := P) (x' := x') (zeros := false) (app := Builtin.firstCells e k x') R he hb hz hze hs n1 n2 h
                      exact ⟨μ', v', w', by rw [append_plain h0 hu0 h1 hu1 hi he (lenV_ok hx hk w)]; exact q1, q2, q3⟩
                    · cases h
                  · cases h
            · cases h
    · cases h
  · -- copy
    rename_i d s
    obtain ⟨d', _, rfl, hd, ht⟩ := ha.of_cons
    obtain ⟨s', _, rfl, hs, ht'⟩ := ht.of_cons
    rw [ht'.of_nil]
    refine lift (s := Builtin.copy_ ts ty #[d', s']) ?_
    split at h
    · rename_i el bs dl dc sl he0 hsl
      cases h0 : ts[0]? with
      | none => simp [h0] at he0
      | some t0 =>
        simp only [h0, Option.bind_some] at he0
        split at h
        · rename_i e he
          split at h
          · rename_i cs hf
            exact copy_ok R h0 (elemT_some he0) he h hd hs hsl hf
          · cases h
        · cases h
    · cases h
  · -- clear
    rename_i x
    obtain ⟨x', _, rfl, hx, ht⟩ := ha.of_cons
    rw [ht.of_nil]
    refine lift (s := Builtin.clear_ ts ty #[x']) ?_
    split at h
    · rename_i el n c he0
      cases h
      rw [hx.slice_nil]
      cases h0 : ts[0]? with
      | none => simp [h0] at he0
      | some t0 =>
        simp only [h0, Option.bind_some] at he0
        exact .same R (by simp [Builtin.clear_, h0, run_underlying (elemT_some he0)]) (.tuple rfl (fun i x y h => by simp at h))
    · rename_i el a n c he0
      cases h0 : ts[0]? with
      | none => simp [h0] at he0
      | some t0 =>
        simp only [h0, Option.bind_some] at he0
        split at h
        · rename_i hn
          cases h
          subst hn
          obtain ⟨bs', c', rfl⟩ := hx.slice_cases
          exact .same R (by cases bs' <;> simp [Builtin.clear_, h0, run_underlying (elemT_some he0)]) (.tuple rfl (fun i x y h => by simp at h))
        · rename_i hn
          split at h
          · rename_i z hz
            cases hw : wr H a.block a.off (zerosOf z.cells (n * z.cells.size)) with
            | none => simp [hw] at h
            | some H1 =>
              simp [hw] at h
              obtain ⟨rfl, rfl⟩ := h
              exact clear_ok R h0 (elemT_some he0) hx hn hz hw
          · cases h
    · cases h
  · -- min
    split at h
    · rename_i hf
      rw [flats_eq ha hf]
      cases hp : pureV P (Builtin.min_ ts ty args.toArray) with
      | none => simp [hp] at h
      | some r =>
        simp [hp] at h
        obtain ⟨rfl, rfl⟩ := h
        exact lift (s := Builtin.min_ ts ty args.toArray) (.same R (pureV_ok hp w).1 (VR.of_flat μ depth (pureV_ok hp w).2))
    · cases h
  · split at h
    · rename_i hf
      rw [flats_eq ha hf]
      cases hp : pureV P (Builtin.max_ ts ty args.toArray) with
      | none => simp [hp] at h
      | some r =>
        simp [hp] at h
        obtain ⟨rfl, rfl⟩ := h
        exact lift (s := Builtin.max_ ts ty args.toArray) (.same R (pureV_ok hp w).1 (VR.of_flat μ depth (pureV_ok hp w).2))
    · cases h
  · cases h
end
end Go.Proofs.YtmbofpmjckjceaaDoor.E
