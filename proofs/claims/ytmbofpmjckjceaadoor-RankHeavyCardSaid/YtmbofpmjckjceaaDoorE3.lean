/- The evaluator's operations and the model's. No condition. -/
import Derived.Test.YtmbofpmjckjceaaDoorE2
import Derived.Laws.Append
namespace Go.Proofs.YtmbofpmjckjceaaDoor.E
open Go Go.RowKit
set_option linter.unusedVariables false
set_option linter.unusedSimpArgs false
section
variable {base : Nat} {μ : Mp} {H H' : Mem} {w : World} {P : Program}
theorem addr_add (m : MA) (o j : Nat) : (m.addr o).add j = m.addr (o + j) := by
  unfold MA.addr Addr.add
  split
  · rename_i h; subst h; rfl
  · simp [Nat.add_assoc]
theorem addr_add' (m : MA) (o j : Nat) : (m.addr o).add j = ⟨m.at_.block, m.at_.off + (o + j), none⟩ := addr_add m o j
theorem run_isAgg' {t : TypeId} {d : TypeDesc} (h : P.underlying t = some d) (w : World) : (isAgg t).run P w = .ok (isAggD d) w := by
  simp only [isAgg, Sem.run_bind, run_underlying h, Result.andThen_ok]
  cases d <;> rfl
theorem run_size' {t : TypeId} {k : Nat} (h : tsz P t = some k) (w : World) : (sizeOf t).run P w = .ok k w := by
  unfold tsz at h
  cases hi : P.info? t with
  | none => simp [hi] at h
  | some i => simp [hi] at h; simp [sizeOf, typeInfo, hi, h]
theorem run_zero' {t : TypeId} {z : Value} (h : tzero P t = some z) (w : World) : (zeroValue t).run P w = .ok z w ∧ flat depth z = true := by
  unfold tzero at h
  cases hi : P.info? t with
  | none => simp [hi] at h
  | some i =>
    simp only [hi, Option.bind_some] at h
    split at h
    · rename_i z' hz
      split at h
      · rename_i hf; cases h; exact ⟨by simp [zeroValue, typeInfo, hi, hz], hf⟩
      · cases h
    · cases h
theorem run_bytes' {t : TypeId} {k : Nat} (h : tbytes P t = some k) (w : World) : ∃ i, (typeInfo t).run P w = .ok i w ∧ i.bytes = k := by
  unfold tbytes at h
  cases hi : P.info? t with
  | none => simp [hi] at h
  | some i => simp [hi] at h; exact ⟨i, by simp [typeInfo, hi], h⟩
/-- Cells that are read. -/
theorem rd_some {i off k : Nat} {cs : List Value} (h : rd H i off k = some cs) : ∃ b, H.live i = some b ∧ off + k ≤ b.cells.length ∧ cs = (b.cells.drop off).take k := by
  unfold rd at h
  split at h
  · rename_i b hb
    split at h
    · rename_i hl; cases h; exact ⟨b, hb, hl, rfl⟩
    · cases h
  · cases h
theorem rd_ok (R : Rl base μ H w) {i off k : Nat} {m : MA} {cs : List Value} (hm : μ i = some m) (h : rd H i off k = some cs) :
    ∃ cs', VRs μ cs cs' ∧ cs.length = k ∧ ∀ (j : Nat) v, cs'[j]? = some v → w.cell? ((m.addr off).add j) = some v := by
  obtain ⟨b, hb, hl, rfl⟩ := rd_some h
  obtain ⟨ho, ha⟩ := live_some hb
  have r := R.row i m b hm ho
  have hk : ((b.cells.drop off).take k).length = k := by simp; omega
  refine ⟨(List.range k).map fun j => (w.cell? (m.addr (off + j))).getD undef, ⟨by simp; omega, fun j x y hx hy => ?_⟩, hk, fun j v hv => ?_⟩
  · rw [List.getElem?_map] at hy
    rw [List.getElem?_take] at hx
    split at hx
    · rename_i hj
      rw [List.getElem?_drop] at hx
      obtain ⟨v', h1, h2⟩ := r.cells ha _ x hx
      rw [List.getElem?_range hj] at hy
      simp [h1] at hy
      exact hy ▸ h2
    · cases hx
  · rw [List.getElem?_map] at hv
    rw [addr_add]
    cases hj : (List.range k)[j]? with
    | none => simp [hj] at hv
    | some q =>
      have hq : j < k := by have := (List.getElem?_eq_some_iff.1 hj).1; simpa using this
      rw [List.getElem?_range hq] at hj; cases hj
      rw [List.getElem?_range hq] at hv
      obtain ⟨v', h1, h2⟩ := r.cells ha (off + j) _ (List.getElem?_eq_getElem (by omega))
      simp [h1] at hv
      rw [h1, hv]
theorem loadCells_ok (R : Rl base μ H w) {i off k : Nat} {m : MA} {cs : List Value} (hm : μ i = some m) (h : rd H i off k = some cs) :
    ∃ cs', VRs μ cs cs' ∧ (loadCells (m.addr off) k).run P w = .ok cs'.toArray w := by
  obtain ⟨cs', h1, h2, h3⟩ := rd_ok R hm h
  refine ⟨cs', h1, ?_⟩
  have := run_loadCells_list (P := P) w (m.addr off) cs' h3
  rwa [← h1.1, h2] at this
theorem loadV_ok (R : Rl base μ H w) {t : TypeId} {a : Addr} {m : MA} {v : Value} (hm : μ a.block = some m) (h : loadV P H t a = some v) :
    ∃ v', (loadVar t (m.addr a.off)).run P w = .ok v' w ∧ VR μ v v' := by
  unfold loadV at h
  cases hu : P.underlying t with
  | none => simp [hu] at h
  | some d =>
    simp only [hu, Option.map_some] at h
    cases hd : isAggD d with
    | true =>
      rw [hd] at h
      cases hs : tsz P t with
      | none => simp [hs] at h
      | some k =>
        simp only [hs] at h
        cases hr : rd H a.block a.off k with
        | none => simp [hr] at h
        | some cs =>
          simp [hr] at h; subst h
          obtain ⟨cs', h1, h2⟩ := loadCells_ok (P := P) R hm hr
          refine ⟨.agg cs'.toArray, ?_, .agg' ⟨by simpa using h1.1, fun i x y a b => h1.2 i x y (by simpa using a) (by simpa using b)⟩⟩
          simp [loadVar, run_isAgg' hu, hd, run_size' hs, h2]
    | false =>
      rw [hd] at h
      simp only at h
      split at h
      · rename_i x hr
        cases h
        obtain ⟨cs', h1, h2, h3⟩ := rd_ok R hm hr
        obtain ⟨y, ys, rfl, hv, _⟩ := h1.of_cons
        have hc := h3 0 y rfl
        rw [addr_add, Nat.add_zero] at hc
        exact ⟨y, by simp [loadVar, run_isAgg' hu, hd, hc], hv⟩
      · cases h
theorem splice_length (l vs : List Value) (off : Nat) (h : off + vs.length ≤ l.length) : (splice l off vs).length = l.length := by simp [splice]; omega
theorem splice_get (l vs : List Value) (off j : Nat) (h : off + vs.length ≤ l.length) : (splice l off vs)[j]? = if j < off then l[j]? else if j < off + vs.length then vs[j - off]? else l[j]? := by
  unfold splice
  have ht : (l.take off).length = off := by simp; omega
  by_cases h1 : j < off
  · rw [if_pos h1, List.append_assoc, List.getElem?_append_left (by omega), List.getElem?_take, if_pos h1]
  · rw [if_neg h1]
    by_cases h2 : j < off + vs.length
    · rw [if_pos h2, List.append_assoc, List.getElem?_append_right (by omega), ht, List.getElem?_append_left (by omega)]
    · rw [if_neg h2, List.getElem?_append_right (by simp; omega), List.getElem?_drop]
      congr 1
      simp; omega
theorem wr_some {i off : Nat} {vs : List Value} (h : wr H i off vs = some H') : ∃ b, H.live i = some b ∧ b.ro = false ∧ off + vs.length ≤ b.cells.length ∧ (∀ v ∈ vs, v.oneCell' = true) ∧ H' = H.put i b (splice b.cells off vs) := by
  unfold wr at h
  split at h
  · rename_i b hb
    split at h
    · rename_i hl; cases h; exact ⟨b, hb, hl.1, hl.2.1, by simpa using hl.2.2, rfl⟩
    · cases h
  · cases h
theorem oneCells {vs vs' : List Value} (h : VRs μ vs vs') (h1 : ∀ v ∈ vs, v.oneCell' = true) : ∀ v ∈ vs', v.oneCell' = true := fun v hv => by
  obtain ⟨j, hj⟩ := List.mem_iff_getElem?.1 hv
  have hl := (List.getElem?_eq_some_iff.1 hj).1
  have := h.2 j _ v (List.getElem?_eq_getElem (by rw [h.1]; exact hl)) hj
  rw [this.oneCell]
  exact h1 _ (List.getElem_mem _)
/-- Cells that are written. -/
theorem wr_ok (R : Rl base μ H w) {i off : Nat} {m : MA} {vs vs' : List Value} (hm : μ i = some m) (hv : VRs μ vs vs') (h : wr H i off vs = some H') :
    ∃ w', (storeCells (m.addr off) vs').run P w = .ok () w' ∧ Stp base μ H w μ H' w' := by
  obtain ⟨b, hb, hr, hl, h1, rfl⟩ := wr_some h
  obtain ⟨ho, ha⟩ := live_some hb
  have r := R.row i m b hm ho
  obtain ⟨x1, x2, c, ty, x3, x4⟩ := r.rw hr
  have hst := run_storeCells_at P m.at_.block (m.at_.off + off) ty vs' 0 c w x3 (by rw [x4, ← hv.1]; omega) (oneCells hv h1)
  refine ⟨_, hst, R.put hm hb hr (splice_length _ _ _ hl) x3 ?_ fun j v hj => ?_⟩
  · simp; rw [← hv.1]; omega
  · have hd := splice_get c.toList vs' (m.at_.off + off) (m.at_.off + j) (by rw [← hv.1]; simp; omega)
    rw [splice_get _ _ _ _ hl] at hj
    have e : (c.toList.take (m.at_.off + off + 0) ++ vs' ++ c.toList.drop (m.at_.off + off + 0 + vs'.length)).toArray[m.at_.off + j]? = (splice c.toList (m.at_.off + off) vs')[m.at_.off + j]? := by simp [splice]
    rw [e, hd]
    have old : ∀ v, b.cells[j]? = some v → ∃ v', c.toList[m.at_.off + j]? = some v' ∧ VR μ v v' := fun v hv => by
      obtain ⟨v', a1, a2⟩ := r.cells ha j v hv
      refine ⟨v', ?_, a2⟩
      simpa [MA.addr, World.cell?, x3] using a1
    by_cases c1 : j < off
    · rw [if_pos c1] at hj; rw [if_pos (by omega)]; exact old v hj
    · rw [if_neg c1] at hj; rw [if_neg (by omega)]
      by_cases c2 : j < off + vs.length
      · rw [if_pos c2] at hj; rw [if_pos (by rw [← hv.1]; omega)]
        have hl' : j - off < vs'.length := by rw [← hv.1]; omega
        refine ⟨vs'[j - off], ?_, hv.2 _ v _ hj (List.getElem?_eq_getElem hl')⟩
        rw [show m.at_.off + j - (m.at_.off + off) = j - off by omega]
        exact List.getElem?_eq_getElem hl'
      · rw [if_neg c2] at hj; rw [if_neg (by rw [← hv.1]; omega)]; exact old v hj
theorem storeV_ok (R : Rl base μ H w) {t : TypeId} {a : Addr} {m : MA} {v v' : Value} (hm : μ a.block = some m) (hv : VR μ v v') (h : storeV P H t a v = some H') :
    ∃ w', (storeVar t (m.addr a.off) v').run P w = .ok () w' ∧ Stp base μ H w μ H' w' := by
  unfold storeV at h
  split at h
  · rename_i hs
    obtain ⟨w', h1, h2⟩ := wr_ok (P := P) R hm hv.cells h
    refine ⟨w', ?_, h2⟩
    have hsz := hv.cells.size
    simp [storeVar, run_size' hs, hsz, h1]
  · cases h
/-! ### Operands -/
structure ActR (μ : Mp) (T : Tr Value) (a : Act) : Prop where
  tm : ∀ t, VR μ ((T.get t).getD undef) (a.tmps.getD t undef)
theorem ActR.mono {μ μ' : Mp} {T : Tr Value} {a : Act} (h : Ext μ μ') (A : ActR μ T a) : ActR μ' T a := ⟨fun t => (A.tm t).mono h⟩
theorem ActR.put {T : Tr Value} {a : Act} (A : ActR μ T a) {d : Option Tmp} (hd : ∀ t, d = some t → t < a.tmps.size) {v v' : Value} (hv : VR μ v v') : ActR μ (putT T d v) (a.put d v') := by
  cases d with
  | none => exact A
  | some d =>
    refine ⟨fun t => ?_⟩
    simp only [putT, Act.put, Tr.get_set]
    by_cases e : d = t
    · subst e
      have := hd d rfl
      simp [Array.getD_eq_getD_getElem?, this, hv]
    · rw [if_neg e]
      have : (a.tmps.setIfInBounds d v').getD t undef = a.tmps.getD t undef := by simp [Array.getD_eq_getD_getElem?, Array.getElem?_setIfInBounds, e]
      rw [this]; exact A.tm t
def okO : Operand → Bool
  | .tmp _ => true
  | .const v => flat depth v
  | .global _ => false
  | .func _ => true
theorem evalO_ok {T : Tr Value} {a : Act} (A : ActR μ T a) {x : Operand} (h : okO x = true) : VR μ (evalO T x) (a.eval x) := by
  cases x with
  | tmp t => exact A.tm t
  | const v => exact VR.of_flat μ depth h
  | global g => simp [okO] at h
  | func f => exact .func' _ ⟨rfl, fun i x y h => by simp at h⟩ ⟨rfl, fun i x y h => by simp at h⟩
theorem pureRun_ok {α : Type} (P : Program) : ∀ (s : Sem α) (r : α), pureRun P s = some r → ∀ w, s.run P w = .ok r w
  | .pure a, r, h, w => by simp [pureRun] at h; subst h; rfl
  | .program k, r, h, w => by simp only [pureRun] at h; exact pureRun_ok P (k P) r h w
  | .mark m k, r, h, w => by simp only [pureRun] at h; exact pureRun_ok P k r h w
  | .load _ _ _, _, h, _ => by simp [pureRun] at h
  | .store _ _ _ _, _, h, _ => by simp [pureRun] at h
  | .new _ _, _, h, _ => by simp [pureRun] at h
  | .shape _ _, _, h, _ => by simp [pureRun] at h
  | .freeze _ _ _, _, h, _ => by simp [pureRun] at h
  | .frozen _ _, _, h, _ => by simp [pureRun] at h
  | .getObj _ _, _, h, _ => by simp [pureRun] at h
  | .setObj _ _ _, _, h, _ => by simp [pureRun] at h
  | .choose _ _, _, h, _ => by simp [pureRun] at h
  | .sys _ _, _, h, _ => by simp [pureRun] at h
  | .halt _, _, h, _ => by simp [pureRun] at h
theorem pureV_ok {s : Sem Value} {v : Value} (h : pureV P s = some v) (w : World) : s.run P w = .ok v w ∧ flat depth v = true := by
  unfold pureV at h
  split at h
  · rename_i v' hv
    split at h
    · rename_i hf; cases h; exact ⟨pureRun_ok P _ _ hv w, hf⟩
    · cases h
  · cases h
end
end Go.Proofs.YtmbofpmjckjceaaDoor.E
