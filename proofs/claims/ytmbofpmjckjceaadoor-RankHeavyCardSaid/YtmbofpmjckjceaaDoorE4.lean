/- The evaluator's operations and the model's: literals, slices, append. No condition. -/
import Derived.Test.YtmbofpmjckjceaaDoorE3
namespace Go.Proofs.YtmbofpmjckjceaaDoor.E
open Go Go.RowKit
set_option linter.unusedVariables false
set_option linter.unusedSimpArgs false
section
variable {base : Nat} {μ : Mp} {H H' : Mem} {w : World} {P : Program}
theorem VRa.set {xs ys : Array Value} (h : VRa μ xs ys) (i : Nat) {x y : Value} (hv : VR μ x y) : VRa μ (xs.setIfInBounds i x) (ys.setIfInBounds i y) := by
  refine .mk (by simp [h.size]) fun j a b ha hb => ?_
  rw [Array.getElem?_setIfInBounds] at ha hb
  by_cases e : i = j
  · subst e
    by_cases hi : i < xs.size
    · rw [if_pos rfl, if_pos hi] at ha
      rw [if_pos rfl, if_pos (by rw [← h.size]; exact hi)] at hb
      cases ha; cases hb; exact hv
    · rw [if_pos rfl, if_neg hi] at ha; cases ha
  · rw [if_neg e] at ha hb
    exact h.at j a b ha hb
theorem foldset (off : Nat) : ∀ (l l' : List Value) (k : Nat) (cs cs' : Array Value), VRs μ l l' → VRa μ cs cs' →
    VRa μ ((l.zipIdx k).foldl (fun cs p => cs.setIfInBounds (off + p.2) p.1) cs) ((l'.zipIdx k).foldl (fun cs p => cs.setIfInBounds (off + p.2) p.1) cs')
  | [], l', k, cs, cs', h, hc => by rw [h.of_nil]; exact hc
  | v :: l, l', k, cs, cs', h, hc => by
    obtain ⟨v', l'', rfl, hv, ht⟩ := h.of_cons
    simp only [List.zipIdx_cons, List.foldl_cons]
    exact foldset off l l'' (k + 1) _ _ ht (hc.set _ hv)
theorem fill_ok (place : Nat → Option (Nat × Nat)) : ∀ (ps ps' : List (Nat × Value)) (cs cs' : Array Value) (out : Array Value), ps.map (·.1) = ps'.map (·.1) → VRs μ (ps.map (·.2)) (ps'.map (·.2)) → VRa μ cs cs' →
    Instr.fill place cs ps = some out → ∃ out', Instr.fill place cs' ps' = some out' ∧ VRa μ out out'
  | [], ps', cs, cs', out, h1, h2, hc, h => by
    have : ps' = [] := by cases ps' with | nil => rfl | cons a b => simp at h1
    subst this
    simp [Instr.fill] at h
    subst h
    exact ⟨cs', rfl, hc⟩
  | (i, v) :: ps, ps', cs, cs', out, h1, h2, hc, h => by
    cases ps' with
    | nil => simp at h1
    | cons p' ps' =>
      obtain ⟨i', v'⟩ := p'
      simp only [List.map_cons, List.cons.injEq] at h1
      obtain ⟨rfl, h1⟩ := h1
      obtain ⟨x, y, hxy, hv, ht⟩ := h2.of_cons
      simp only [List.map_cons, List.cons.injEq] at hxy
      obtain ⟨rfl, rfl⟩ := hxy
      simp only [Instr.fill] at h ⊢
      cases hp : place i with
      | none => simp [hp] at h
      | some os =>
        obtain ⟨off, size⟩ := os
        simp only [hp] at h ⊢
        have hs := hv.cells.size
        rw [← hs, ← hc.size]
        split at h
        · cases h
        · rename_i hcond
          rw [if_neg hcond]
          have e : ∀ (c : Array Value) (u : Value), (u.cells.zipIdx.foldl (fun cs (x : Value × Nat) => cs.setIfInBounds (off + x.2) x.1) c) = (u.cells.toList.zipIdx.foldl (fun cs (x : Value × Nat) => cs.setIfInBounds (off + x.2) x.1) c) := fun c u => by
            rw [← Array.foldl_toList]; simp
          have hf : VRa μ (v.cells.zipIdx.foldl (fun cs (x : Value × Nat) => cs.setIfInBounds (off + x.2) x.1) cs) (v'.cells.zipIdx.foldl (fun cs (x : Value × Nat) => cs.setIfInBounds (off + x.2) x.1) cs') := by
            rw [e, e]; exact foldset off _ _ 0 _ _ hv.cells hc
          exact fill_ok place ps ps' _ _ out h1 ht hf h
theorem run_places : ∀ (fs : List Field) (pl : List (Nat × Nat)), places P fs = some pl → ∀ w, (fs.mapM (fun f => do pure (f.offset, ← sizeOf f.type) : Field → Sem (Nat × Nat))).run P w = .ok pl w
  | [], pl, h, w => by simp [places] at h; subst h; rfl
  | f :: fs, pl, h, w => by
    unfold places at h
    rw [List.mapM_cons] at h
    cases h1 : tsz P f.type with
    | none => simp [h1] at h
    | some s =>
      cases h2 : fs.mapM (fun f => (tsz P f.type).map fun s => (f.offset, s)) with
      | none => simp [h1, h2] at h
      | some pl' =>
        simp [h1, h2] at h
        subst h
        have ih := run_places fs pl' h2 w
        simp only [List.mapM_cons, Sem.run_bind, run_size' h1, Result.andThen_ok, Sem.run_pure, ih]
theorem buildV_ok {t : TypeId} {ps ps' : List (Nat × Value)} {v : Value} (h1 : ps.map (·.1) = ps'.map (·.1)) (h2 : VRs μ (ps.map (·.2)) (ps'.map (·.2))) (h : buildV P t ps = some v) :
    ∃ v', (Instr.build t ps'.toArray).run P w = .ok v' w ∧ VR μ v v' := by
  unfold buildV at h
  split at h
  · rename_i z fields hz hu
    split at h
    · rename_i pl hpl
      obtain ⟨hzr, hzf⟩ := run_zero' hz w
      cases hf : Instr.fill (pl[·]?) z.cells ps with
      | none => simp [hf] at h
      | some out =>
        simp [hf] at h; subst h
        obtain ⟨out', h3, h4⟩ := fill_ok (pl[·]?) ps ps' _ _ out h1 h2 (VR.of_flat μ depth hzf).cells hf
        refine ⟨.agg out', ?_, .agg' h4⟩
        have hp := run_places fields.toList pl hpl w
        simp only [Instr.build, Sem.run_bind, hzr, Result.andThen_ok, run_underlying hu, Array.mapM_eq_mapM_toList, Sem.run_map, hp]
        simp [h3]
    · cases h
  · rename_i z n e hz hu
    obtain ⟨hzr, hzf⟩ := run_zero' hz w
    split at h
    · rename_i s hs
      cases hf : Instr.fill (fun i => some (i * s, s)) z.cells ps with
      | none => simp [hf] at h
      | some out =>
        simp [hf] at h; subst h
        obtain ⟨out', h3, h4⟩ := fill_ok (fun i => some (i * s, s)) ps ps' _ _ out h1 h2 (VR.of_flat μ depth hzf).cells hf
        refine ⟨.agg out', ?_, .agg' h4⟩
        simp [Instr.build, hzr, run_underlying hu, run_size' hs, h3]
    · cases h
  · cases h
theorem partV_ok {t : TypeId} {cs cs' : Array Value} {off : Nat} {v : Value} (hc : VRa μ cs cs') (h : partV P t cs off = some v) : ∃ v', (part t cs' off).run P w = .ok v' w ∧ VR μ v v' := by
  unfold partV at h
  cases hu : P.underlying t with
  | none => simp [hu] at h
  | some d =>
    simp only [hu, Option.map_some] at h
    cases hd : isAggD d with
    | true =>
      rw [hd] at h
      cases hs : tsz P t with
      | none => simp [hs] at h
      | some k =>
        simp [hs] at h; subst h
        refine ⟨_, by simp [part, run_isAgg' hu, hd, run_size' hs]; rfl, .agg' ?_⟩
        have := (hc.drop off).take k
        unfold VRa
        simpa [Array.toList_extract, List.extract_eq_take_drop] using this
    | false =>
      rw [hd] at h
      simp only at h
      have hl : off < cs'.size := by rw [← hc.size]; exact (Array.getElem?_eq_some_iff.1 h).1
      exact ⟨cs'[off], by simp [part, run_isAgg' hu, hd, hl], hc.at off _ _ h (Array.getElem?_eq_getElem hl)⟩
end
end Go.Proofs.YtmbofpmjckjceaaDoor.E
