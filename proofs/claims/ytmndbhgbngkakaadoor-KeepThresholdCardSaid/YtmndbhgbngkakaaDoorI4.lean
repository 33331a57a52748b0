/- slices.Insert and slices.Delete: what is where behind them. No condition but those that are written out. -/
import Derived.Test.YtmndbhgbngkakaaDoorI3
namespace Go.Proofs.YtmndbhgbngkakaaDoor.I
open Go Go.RowKit Go.Lib Go.Proofs.YtmndbhgbngkakaaDoor.E
set_option linter.all false

/-- What a call has done to the world: of the blocks that were there only B's cells are others; the new elements lie in B or in a new block. -/
structure Eff (w w' : World) (B : Nat) (mn : MA) (new : List Value) : Prop where
  oth : ∀ k, k < w.heap.size → k ≠ B → w'.heap[k]? = w.heap[k]?
  size : w.heap.size ≤ w'.heap.size
  os : w'.os = w.os
  tape : w'.tape = w.tape
  out : w'.output = w.output
  blk : ∀ (c0 : Array Value) (ty : TypeId), w.heap[B]? = some (.cells c0 ty (0, 0)) → ∃ c' : Array Value, w'.heap[B]? = some (.cells c' ty (0, 0)) ∧ c'.size = c0.size
  at_ : mn.at_.block = B ∨ w.heap.size ≤ mn.at_.block
  spot : mn.at_.spot = none
  row : ∃ (cn : Array Value) (tn : TypeId), w'.heap[mn.at_.block]? = some (.cells cn tn (0, 0)) ∧ cn.size = mn.lim ∧ mn.at_.off + new.length ≤ mn.lim ∧ ∀ (j : Nat) v, new[j]? = some v → cn[mn.at_.off + j]? = some v
section
variable {base : Nat} {μ : Mp} {H : Mem} {w w' : World}
theorem Eff.stp (R : Rl base μ H w) {i : Nat} {m : MA} {b : Blk} (hm : μ i = some m) (hl : H.live i = some b) (hr : b.ro = false) (he : b.esz ≠ 0) {mn : MA} {new : List Value} (h : Eff w w' m.at_.block mn new) (hme : mn.e = b.esz) (hf : ∀ v, v ∈ new → flat depth v = true) :
    Stp base μ H w (upd μ H.n mn) (H.grow i b false new) w' := by
  obtain ⟨ho, ha⟩ := live_some hl
  obtain ⟨x1, x2, c0, ty, x3, x4⟩ := (R.row i m b hm ho).rw hr
  obtain ⟨c', q1, q2⟩ := h.blk c0 ty x3
  obtain ⟨cn, tn, y1, y2, y3, y4⟩ := h.row
  exact R.grow hm hl hr he false x3 q2 h.oth q1 h.size h.os h.tape h.out (fun h => by cases h) h.spot hme y1 y2 y3 h.at_ fun j v hj => ⟨v, y4 j v hj, VR.of_flat μ depth (hf v (List.mem_of_getElem? hj))⟩
end
/-- Cells that are written. -/
theorem set_facts {w : World} {b o : Nat} {vs : List Value} {c : Array Value} {ty : TypeId} (hb : w.heap[b]? = some (.cells c ty (0, 0))) (hl : o + vs.length ≤ c.size) (h1 : ∀ v ∈ vs, v.oneCell' = true) :
    (∀ k, k ≠ b → (w.setCells b o vs).heap[k]? = w.heap[k]?) ∧ (w.setCells b o vs).heap.size = w.heap.size ∧ (w.setCells b o vs).os = w.os ∧ (w.setCells b o vs).tape = w.tape ∧ (w.setCells b o vs).output = w.output ∧
    ∃ c' : Array Value, (w.setCells b o vs).heap[b]? = some (.cells c' ty (0, 0)) ∧ c'.size = c.size ∧ ∀ j, c'[j]? = if j < o then c[j]? else if j < o + vs.length then vs[j - o]? else c[j]? := by
  have e : w.setCells b o vs = w.setRow b (splice c.toList o vs).toArray := by
    have a1 := run_storeCells_at Tryd.prog b o ty vs 0 c w hb (by simpa using hl) h1
    have a2 := run_storeCells_cells (P := Tryd.prog) b o vs 0 w (fun j hj => by
      simp only [World.cell?, hb, Nat.add_zero]
      rw [Array.getElem?_eq_getElem (by omega)]; rfl) (fun j hj => by simp [World.frozen?, hb]) h1
    rw [a1] at a2
    simp only [Result.ok.injEq, true_and, Nat.add_zero] at a2
    rw [← a2]
    rfl
  rw [e]
  refine ⟨fun k hk => ?_, by simp [World.setRow], rfl, rfl, rfl, (splice c.toList o vs).toArray, setRow_heap w b c _ ty (0, 0) hb, ?_, fun j => ?_⟩
  · simp only [World.setRow, Array.getElem?_modify]
    rw [if_neg (Ne.symm hk)]
  · have := splice_length c.toList vs o (by simpa using hl)
    simpa using this
  · have := splice_get c.toList vs o j (by simpa using hl)
    simpa using this
theorem drew_heap (w : World) : w.drew.heap = w.heap := rfl
end Go.Proofs.YtmndbhgbngkakaaDoor.I
