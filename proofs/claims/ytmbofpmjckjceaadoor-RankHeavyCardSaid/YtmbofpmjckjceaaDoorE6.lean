/- The evaluator's operations and the model's: append, copy, clear, len. No condition. -/
import Derived.Test.YtmbofpmjckjceaaDoorE5
namespace Go.Proofs.YtmbofpmjckjceaaDoor.E
open Go Go.RowKit
set_option linter.unusedVariables false
set_option linter.unusedSimpArgs false
section
variable {base : Nat} {μ : Mp} {H H' : Mem} {w : World} {P : Program}
theorem Rl.heap (R : Rl base μ H w) {w1 : World} (h : w1.heap = w.heap) : Rl base μ H w1 :=
  ⟨R.wf, by rw [h]; exact R.bd, R.has, fun i m b a c => (R.row i m b a c).keep (.refl μ) (fun x => x) (by rw [h]), fun i m es c a b => (R.map i m es c a b).keep (.refl μ) (by rw [h]), R.apart⟩
theorem Rl.drew (R : Rl base μ H w) : Stp base μ H w μ H w.drew :=
  ⟨R.heap rfl, .refl μ, (fun i m h h' => by rw [h] at h'; cases h'), Nat.le_refl _, (fun _ _ => rfl), (fun _ _ _ => rfl), (fun _ _ _ => rfl), Nat.le_refl _, (fun _ _ _ => rfl), rfl, rfl, rfl, Nat.le_refl _⟩
theorem lenV_ok {x x' : Value} {n : Nat} (hx : VR μ x x') (h : lenV x = some n) : ∀ w : World, (Builtin.lenOf x').run P w = .ok n w := by
  intro w
  cases hx <;> simp [lenV] at h <;> subst h <;> rfl
theorem VRs.of_flats {cs : List Value} (h : ∀ v ∈ cs, flat depth v = true) : VRs μ cs cs :=
  ⟨rfl, fun i x y a b => by rw [a] at b; cases b; exact VR.of_flat μ depth (h x (List.mem_of_getElem? a))⟩
theorem firstV_ok (R : Rl base μ H w) {e n l : Nat} {x x' : Value} {cs : List Value} (hx : VR μ x x') (hl : lenV x = some l) (hn : n ≤ l) (h : firstV H e n x = some cs) :
    ∃ cs', VRs μ cs cs' ∧ ∀ w1 : World, w1.heap = w.heap → (Builtin.firstCells e n x').run P w1 = .ok cs'.toArray w1 := by
  unfold firstV at h
  split at h
  · rename_i a n' c
    by_cases h0 : n * e = 0
    · rw [if_pos h0] at h; cases h
      refine ⟨[], .nil μ, fun w1 _ => ?_⟩
      have : ∃ A l' c', x' = .slice (some A) l' c' := by cases hx <;> exact ⟨_, _, _, rfl⟩
      obtain ⟨A, l', c', rfl⟩ := this
      simp [Builtin.firstCells, h0, loadCells, loadCellsFrom]
    · rw [if_neg h0] at h
      simp [lenV] at hl; subst hl
      have hn0 : n' ≠ 0 := fun e0 => h0 (by rw [show n = 0 by omega, Nat.zero_mul])
      have : ∃ m c', μ a.block = some m ∧ x' = .slice (some (m.addr a.off)) n' c' := by
        cases hx with
        | sliceE hs hc hm => exact ⟨_, _, hm, rfl⟩
        | sliceO hs hm hl hn => exact ⟨_, _, hm, rfl⟩
        | sliceE0 hs hm => exact absurd rfl hn0
        | sliceO0 hs hm hl => exact absurd rfl hn0
      obtain ⟨m, c', hm, rfl⟩ := this
      obtain ⟨cs', h1, h2, h3⟩ := rd_ok R hm h
      refine ⟨cs', h1, fun w1 hw => ?_⟩
      have h3' : ∀ (j : Nat) v, cs'[j]? = some v → w1.cell? ((m.addr a.off).add j) = some v := fun j v hv => by
        rw [← h3 j v hv]; unfold World.cell?; rw [hw]
      have := run_loadCells_list (P := P) w1 (m.addr a.off) cs' h3'
      rw [← h1.1, h2] at this
      simp [Builtin.firstCells, this]
  · cases h
    rw [hx.slice_nil]
    exact ⟨[], .nil μ, fun w1 _ => by simp [Builtin.firstCells]⟩
  · rename_i s
    cases h
    rw [hx.str]
    refine ⟨((s.extract 0 n).data.map fun b => Value.int .u8 b.toNat).toList, VRs.of_flats (fun v hv => ?_), fun w1 _ => by simp only [Builtin.firstCells, Sem.run_pure, Array.toArray_toList]⟩
    rw [Array.mem_toList_iff, Array.mem_map] at hv
    obtain ⟨b, _, rfl⟩ := hv
    rfl
  · cases h
theorem zerosOf_flat {z : Value} (hz : flat depth z = true) (n : Nat) : ∀ v ∈ zerosOf z.cells n, flat depth v = true := by
  intro v hv
  have hc : ∀ u ∈ z.cells.toList, flat depth u = true := fun u hu => by
    have hr := VR.of_flat (fun _ => none) depth hz
    cases z with
    | agg cs =>
      simp only [Value.cells] at hu
      simp only [depth, flat, List.all_eq_true] at hz
      have := hz u hu
      have h5 : ∀ k v, flat k v = true → flat (k + 1) v = true := by
        intro k
        induction k with
        | zero => intro v hv; cases v with
          | pointer a => cases a <;> simp_all [flat]
          | map a => cases a <;> simp_all [flat]
          | slice a _ _ => cases a <;> simp_all [flat]
          | _ => simp_all [flat]
        | succ k ih => intro v hv; cases v with
          | pointer a => cases a <;> simp_all [flat]
          | map a => cases a <;> simp_all [flat]
          | slice a _ _ => cases a <;> simp_all [flat]
          | agg cs => simp only [flat, List.all_eq_true] at hv ⊢; exact fun u hu => ih u (hv u hu)
          | tuple cs => simp only [flat, List.all_eq_true] at hv ⊢; exact fun u hu => ih u (hv u hu)
          | iface t v => simp only [flat] at hv ⊢; exact ih v hv
          | func f a b => simp only [flat, List.all_eq_true, Bool.and_eq_true] at hv ⊢; exact ⟨fun u hu => ih u (hv.1 u hu), fun u hu => ih u (hv.2 u hu)⟩
          | _ => simp_all [flat]
      exact h5 5 u this
    | _ => simp only [Value.cells, List.mem_singleton] at hu; subst hu; exact hz
  simp only [zerosOf, Array.toList_map, List.mem_map, Array.mem_toList_iff, Array.mem_range] at hv
  obtain ⟨i, _, rfl⟩ := hv
  by_cases hlt : i % z.cells.size < z.cells.size
  · rw [getElem!_pos z.cells _ hlt]
    exact hc _ (Array.mem_toList_iff.2 (Array.getElem_mem hlt))
  · rw [getElem!_neg z.cells _ hlt]
    rfl
theorem storeCells_nil (a : Addr) (w : World) : (storeCells a []).run P w = .ok () w := rfl
theorem VR.slice_cases {bs : Option Addr} {n c : Nat} {y : Value} (h : VR μ (.slice bs n c) y) : ∃ bs' c', y = .slice bs' n c' := by
  cases h with
  | snil => exact ⟨_, _, rfl⟩
  | sliceE => exact ⟨_, _, rfl⟩
  | sliceO => exact ⟨_, _, rfl⟩
  | sliceE0 => exact ⟨_, _, rfl⟩
  | sliceO0 => exact ⟨_, _, rfl⟩
/-- What append does to memory. -/
theorem appendV_ok (R : Rl base μ H w) {e bytes k : Nat} {s s' v : Value} {new new' : List Value} (el : TypeId) (more : Nat → List Value) (hs : VR μ s s') (hv : VRs μ new new') (h : appendV H e bytes s new k = some (v, H')) :
    ∃ bs n c, s' = .slice bs n c ∧ (n + k) * bytes ≤ maxRoom ∧ bytes ≤ 65536 ∧ n + k ≤ maxRoom ∧ 0 < e ∧
      (n + k ≤ c → ∃ w' μ', (match bs with | some a => (storeCells (a.add (n * e)) new').run P w = .ok () w' | none => w' = w) ∧ Stp base μ H w μ' H' w' ∧ VR μ' v (.slice bs (n + k) c)) ∧
      (c < n + k → ∃ old', (∀ w1 : World, w1.heap = w.heap → (Builtin.firstCells e n s').run P w1 = .ok old'.toArray w1) ∧ ∀ nc, n + k ≤ nc → (more nc).length = (nc - (n + k)) * e →
        ∃ μ', Stp base μ H w μ' H' (w.drew.alloc (.cells (old' ++ new' ++ more nc).toArray el)) ∧ VR μ' v (.slice (some ⟨w.heap.size, 0, none⟩) (n + k) nc)) := by
  unfold appendV at h
  split at h
  · rename_i bs n cap
    split at h
    · rename_i hroom
      obtain ⟨⟨r1, r2, r3⟩, he, hnl, hone⟩ := hroom
      have hnl' : new'.length = k * e := by rw [← hv.1]; exact hnl
      -- where all goes to a new row of a new family
      have fresh : ∀ (old old' : List Value), VRs μ old old' → old.length = n * e → (v, H') = (.slice (some ⟨H.n, 0, none⟩) (n + k) OPEN, H.new (old ++ new) e) → ∀ nc, n + k ≤ nc → (more nc).length = (nc - (n + k)) * e →
          ∃ μ', Stp base μ H w μ' H' (w.drew.alloc (.cells (old' ++ new' ++ more nc).toArray el)) ∧ VR μ' v (.slice (some ⟨w.heap.size, 0, none⟩) (n + k) nc) := by
        intro old old' ho hol hq nc hnc hmore
        simp only [Prod.mk.injEq] at hq
        obtain ⟨rfl, rfl⟩ := hq
        have S := (R.heap (w1 := w.drew) rfl).new e el (more nc) (ho.append hv)
        refine ⟨_, Stp.trans R R.drew S, ?_⟩
        have := VR.sliceO (μ := upd μ H.n ⟨⟨w.drew.heap.size, 0, none⟩, (old' ++ new' ++ more nc).length, e⟩) (a := ⟨H.n, 0, none⟩) (n := n + k) (c := nc) rfl (upd_same μ H.n _)
          (by
            have l1 : old'.length = n * e := by rw [← ho.1]; exact hol
            simp only [List.length_append, l1, hnl', hmore, Nat.zero_add]
            rw [← Nat.add_mul, ← Nat.add_mul]; congr 1; omega) hnc
        exact this
      split at h
      · rename_i hopen
        subst hopen
        split at h
        · cases h
        · rename_i a
          obtain ⟨hsp, m, hm, hy⟩ := hs.slice_open
          split at h
          · cases h
          · rename_i b hb
            obtain ⟨ho, ha⟩ := live_some hb
            have r := R.row a.block m b hm ho
            split at h
            · rename_i hc
              obtain ⟨hbe, hro, hoff⟩ := hc
              obtain ⟨x1, x2, c0, ty, x3, x4⟩ := r.rw hro
              have hme : m.e = e := by rw [r.e, hbe]
              by_cases hk : k = 0
              · subst hk
                rw [if_pos rfl] at h
                simp only [Option.some.injEq, Prod.mk.injEq] at h
                obtain ⟨rfl, rfl⟩ := h
                have hnew : new' = [] := List.length_eq_zero_iff.1 (by rw [hnl']; simp)
                subst hnew
                obtain ⟨bs', c', rfl⟩ := hs.slice_cases
                refine ⟨bs', n, c', rfl, r1, r2, r3, he, fun _ => ⟨w, μ, ?_, .refl R, hs⟩, fun hlt => ?_⟩
                · cases bs' with
                  | none => rfl
                  | some A => exact storeCells_nil _ _
                · exfalso
                  rcases hy with ⟨c, hh, _, hle⟩ | ⟨A, hh, hn0, _⟩
                  · cases hh; omega
                  · cases hh; omega
              · rw [if_neg hk] at h
                split at h
                · rename_i hfit
                  cases hwr : wr H a.block (a.off + n * e) new with
                  | none => simp [hwr] at h
                  | some H1 =>
                    simp [hwr] at h
                    obtain ⟨rfl, rfl⟩ := h
                    rcases hy with ⟨c, rfl, hl, hle⟩ | ⟨A, rfl, hn0, hl⟩
                    · refine ⟨_, _, _, rfl, r1, r2, r3, he, fun _ => ?_, fun hlt => ?_⟩
                      · obtain ⟨w', h1, h2⟩ := wr_ok (P := P) R hm hv hwr
                        refine ⟨w', μ, ?_, h2, ?_⟩
                        · simp only [addr_add]; exact h1
                        · refine .sliceO hsp hm hl (by assumption)
                      · exfalso
                        rw [hme] at hl
                        have : (n + k) * e ≤ c * e := by rw [Nat.add_mul, ← hnl]; omega
                        have := Nat.le_of_mul_le_mul_right this he
                        omega
                    · exfalso
                      subst hn0
                      have : 0 < k * e := Nat.mul_pos (by omega) he
                      omega
                · rename_i hfit
                  simp only [Option.some.injEq, Prod.mk.injEq] at h
                  obtain ⟨rfl, rfl⟩ := h
                  -- what is there already
                  have hrd : rd H a.block a.off (n * e) = some ((b.cells.drop a.off).take (n * e)) := by unfold rd; rw [hb]; simp [hoff]
                  obtain ⟨old', o1, o2, o3⟩ := rd_ok R hm hrd
                  have ol : old'.length = n * e := by rw [← o1.1]; exact o2
                  have hez : b.esz ≠ 0 := by omega
                  have own : ∀ (j : Nat) v, b.cells[j]? = some v → ∃ v', c0[m.at_.off + j]? = some v' ∧ VR μ v v' := fun j v hj => by
                    obtain ⟨v', q1, q2⟩ := r.cells ha j v hj
                    exact ⟨v', by simpa [MA.addr, World.cell?, x3] using q1, q2⟩
                  have copy : ∀ nc, n + k ≤ nc → (more nc).length = (nc - (n + k)) * e →
                      ∃ μ', Stp base μ H w μ' (H.grow a.block b (a.off + n * e == b.cells.length) ((b.cells.drop a.off).take (n * e) ++ new)) (w.drew.alloc (.cells (old' ++ new' ++ more nc).toArray el)) ∧ VR μ' (.slice (some ⟨H.n, 0, none⟩) (n + k) OPEN) (.slice (some ⟨w.heap.size, 0, none⟩) (n + k) nc) := by
                    intro nc hnc hmore
                    have hnw : (w.drew.alloc (.cells (old' ++ new' ++ more nc).toArray el)).heap[w.heap.size]? = some (.cells (old' ++ new' ++ more nc).toArray el (0, 0)) := heap_push_new w.drew _
                    have hlt := R.blk_lt hm
                    have S := R.grow (w' := w.drew.alloc (.cells (old' ++ new' ++ more nc).toArray el)) hm hb hro hez (a.off + n * e == b.cells.length) (cs := (b.cells.drop a.off).take (n * e) ++ new) x3 (c' := c0) rfl
                      (fun q hq _ => heap_push_lt w.drew _ hq) ((heap_push_lt w.drew _ hlt).trans x3) (by simp) rfl rfl rfl (fun _ => own)
                      (mn := ⟨⟨w.heap.size, 0, none⟩, (old' ++ new' ++ more nc).length, e⟩) rfl hbe.symm hnw (by simp) (by simp [← o1.1, ← hv.1]) (.inr (Nat.le_refl _)) (fun j v hj => ?_)
                    · refine ⟨_, S, ?_⟩
                      refine .sliceO (a := ⟨H.n, 0, none⟩) (c := nc) rfl (upd_same μ H.n _) ?_ hnc
                      simp only [List.length_append, ol, hnl', hmore, Nat.zero_add]
                      rw [← Nat.add_mul, ← Nat.add_mul]; congr 1; omega
                    · have hjl : j < (old' ++ new').length := by
                        have := (List.getElem?_eq_some_iff.1 hj).1
                        rw [← (o1.append hv).1]; exact this
                      refine ⟨(old' ++ new')[j], ?_, (o1.append hv).2 j v _ hj (List.getElem?_eq_getElem hjl)⟩
                      show (old' ++ new' ++ more nc).toArray[0 + j]? = _
                      rw [List.getElem?_toArray, Nat.zero_add, List.getElem?_append_left hjl]
                      exact List.getElem?_eq_getElem hjl
                  rcases hy with ⟨c, rfl, hl, hle⟩ | ⟨A, rfl, hn0, hl⟩
                  · refine ⟨_, _, _, rfl, r1, r2, r3, he, fun hfit' => ?_, fun hlt => ?_⟩
                    · -- in place, beyond what is known
                      rw [hme] at hl
                      have hin : m.at_.off + (a.off + n * e) + new'.length ≤ c0.size := by
                        have : (n + k) * e ≤ c * e := Nat.mul_le_mul_right _ hfit'
                        rw [Nat.add_mul] at this
                        rw [x4, hnl']; omega
                      have hst := run_storeCells_at P m.at_.block (m.at_.off + (a.off + n * e)) ty new' 0 c0 w x3 (by simpa using hin) (oneCells hv (by simpa using hone))
                      simp only [Nat.add_zero] at hst
                      have hsp' : (c0.toList.take (m.at_.off + (a.off + n * e)) ++ new' ++ c0.toList.drop (m.at_.off + (a.off + n * e) + new'.length)) = splice c0.toList (m.at_.off + (a.off + n * e)) new' := rfl
                      rw [hsp'] at hst
                      have hget : ∀ j, (splice c0.toList (m.at_.off + (a.off + n * e)) new').toArray[j]? = if j < m.at_.off + (a.off + n * e) then c0[j]? else if j < m.at_.off + (a.off + n * e) + new'.length then new'[j - (m.at_.off + (a.off + n * e))]? else c0[j]? := fun j => by
                        rw [List.getElem?_toArray, splice_get _ _ _ _ (by simpa using hin)]; simp
                      have S := R.grow (w' := w.setRow m.at_.block (splice c0.toList (m.at_.off + (a.off + n * e)) new').toArray) hm hb hro hez (a.off + n * e == b.cells.length) (cs := (b.cells.drop a.off).take (n * e) ++ new) x3
                        (c' := (splice c0.toList (m.at_.off + (a.off + n * e)) new').toArray) (by rw [List.size_toArray, splice_length _ _ _ (by simpa using hin)]; simp)
                        (fun q hq hne => setRow_other w _ _ _ hne) (setRow_heap w _ _ _ _ _ x3) (by simp) rfl rfl rfl (fun hkeep j v hj => ?_)
                        (mn := ⟨m.addr a.off, m.lim, e⟩) rfl hbe.symm (cn := (splice c0.toList (m.at_.off + (a.off + n * e)) new').toArray) (tn := ty) (setRow_heap w _ _ _ _ _ x3) (by simp [splice_length _ _ _ (show m.at_.off + (a.off + n * e) + new'.length ≤ c0.toList.length by simpa using hin)]; exact x4)
                        (by simp [MA.addr]; rw [x4] at hin; rw [hnl'] at hin; rw [hnl]; omega) (.inl rfl) (fun j v hj => ?_)
                      · refine ⟨_, _, ?_, S, ?_⟩
                        · simp only [addr_add]; exact hst
                        · refine .sliceO (a := ⟨H.n, 0, none⟩) (m := ⟨m.addr a.off, m.lim, e⟩) (c := c) rfl (upd_same μ H.n _) ?_ hfit'
                          simp [MA.addr]; omega
                      · have hjl := (List.getElem?_eq_some_iff.1 hj).1
                        have hk' : a.off + n * e = b.cells.length := by simpa using hkeep
                        obtain ⟨v', q1, q2⟩ := own j v hj
                        exact ⟨v', by rw [hget, if_pos (by omega)]; exact q1, q2⟩
                      · simp only [MA.addr]
                        rw [hget]
                        have hlen : ((b.cells.drop a.off).take (n * e)).length = n * e := o2
                        by_cases hj1 : j < n * e
                        · rw [if_pos (by omega)]
                          rw [List.getElem?_append_left (by omega), List.getElem?_take, if_pos hj1, List.getElem?_drop] at hj
                          obtain ⟨v', q1, q2⟩ := own _ v hj
                          exact ⟨v', by rw [← q1]; congr 1; omega, q2⟩
                        · rw [if_neg (by omega)]
                          rw [List.getElem?_append_right (by omega), hlen] at hj
                          have hj2 := (List.getElem?_eq_some_iff.1 hj).1
                          have hj3 : j - n * e < new'.length := by rw [← hv.1]; exact hj2
                          rw [if_pos (by omega)]
                          refine ⟨new'[j - n * e], ?_, hv.2 _ v _ hj (List.getElem?_eq_getElem hj3)⟩
                          rw [show m.at_.off + a.off + j - (m.at_.off + (a.off + n * e)) = j - n * e by omega]
                          exact List.getElem?_eq_getElem hj3
                    · refine ⟨old', fun w1 hw => ?_, copy⟩
                      have o3' : ∀ (j : Nat) v, old'[j]? = some v → w1.cell? ((m.addr a.off).add j) = some v := fun j v hv => by
                        rw [← o3 j v hv]; unfold World.cell?; rw [hw]
                      have := run_loadCells_list (P := P) w1 (m.addr a.off) old' o3'
                      rw [ol] at this
                      simp [Builtin.firstCells, this]
                  · subst hn0
                    refine ⟨_, _, _, rfl, r1, r2, r3, he, fun hfit' => ?_, fun hlt => ⟨old', fun w1 hw => ?_, copy⟩⟩
                    · omega
                    · have : old' = [] := List.length_eq_zero_iff.1 (by rw [ol]; simp)
                      subst this
                      simp [Builtin.firstCells, loadCells, loadCellsFrom]
            · cases h
      · rename_i hopen
        split at h
        · rename_i hfit
          by_cases hk : k = 0
          · subst hk
            rw [if_pos rfl] at h
            simp only [Option.some.injEq, Prod.mk.injEq] at h
            obtain ⟨rfl, rfl⟩ := h
            have hnew : new' = [] := List.length_eq_zero_iff.1 (by rw [hnl']; simp)
            subst hnew
            obtain ⟨bs', c', rfl⟩ := hs.slice_cases
            have hcc : c' = cap := by
              cases bs with
              | none => have := hs.slice_nil; cases this; rfl
              | some a =>
                obtain ⟨_, _, m, hm, hy⟩ := hs.slice_exact hopen
                rcases hy with hy | ⟨A, hy, _, h0⟩
                · cases hy; rfl
                · cases hy; exact h0.symm
            refine ⟨bs', n, c', rfl, r1, r2, r3, he, fun _ => ⟨w, μ, ?_, .refl R, hs⟩, fun hlt => by omega⟩
            cases bs' with
            | none => rfl
            | some A => exact storeCells_nil _ _
          · rw [if_neg hk] at h
            split at h
            · cases h
            · rename_i a
              obtain ⟨hsp, hlt, m, hm, hy⟩ := hs.slice_exact hopen
              cases hwr : wr H a.block (a.off + n * e) new with
              | none => simp [hwr] at h
              | some H1 =>
                simp [hwr] at h
                obtain ⟨rfl, rfl⟩ := h
                rcases hy with rfl | ⟨A, rfl, h0, h1⟩
                · refine ⟨_, _, _, rfl, r1, r2, r3, he, fun _ => ?_, fun hlt => by omega⟩
                  obtain ⟨w', h1, h2⟩ := wr_ok (P := P) R hm hv hwr
                  refine ⟨w', μ, ?_, h2, .sliceE hsp hlt hm⟩
                  simp only [addr_add]; exact h1
                · omega
        · rename_i hfit
          split at h
          · cases h
          · rename_i old hold
            simp only [Option.some.injEq] at h
            split at hold
            · split at hold
              · rename_i hn0
                cases hold
                subst hn0
                have := hs.slice_nil
                subst this
                refine ⟨_, _, _, rfl, r1, r2, r3, he, fun hfit' => absurd hfit' hfit, fun hlt => ⟨[], fun w1 _ => by simp [Builtin.firstCells], fresh [] [] (.nil μ) (by simp) h.symm⟩⟩
              · cases hold
            · rename_i a
              obtain ⟨hsp, hlt, m, hm, hy⟩ := hs.slice_exact hopen
              obtain ⟨old', o1, o2, o3⟩ := rd_ok R hm hold
              have ol : old'.length = n * e := by rw [← o1.1]; exact o2
              rcases hy with rfl | ⟨A, rfl, h0, h1⟩
              · refine ⟨_, _, _, rfl, r1, r2, r3, he, fun hfit' => absurd hfit' hfit, fun hlt => ⟨old', fun w1 hw => ?_, fresh old old' o1 o2 h.symm⟩⟩
                have o3' : ∀ (j : Nat) v, old'[j]? = some v → w1.cell? ((m.addr a.off).add j) = some v := fun j v hv => by
                  rw [← o3 j v hv]; unfold World.cell?; rw [hw]
                have := run_loadCells_list (P := P) w1 (m.addr a.off) old' o3'
                rw [ol] at this
                simp [Builtin.firstCells, this]
              · subst h0; subst h1
                refine ⟨_, _, _, rfl, r1, r2, r3, he, fun hfit' => absurd hfit' hfit, fun hlt => ⟨old', fun w1 hw => ?_, fresh old old' o1 o2 h.symm⟩⟩
                have : old' = [] := List.length_eq_zero_iff.1 (by rw [ol]; simp)
                subst this
                simp [Builtin.firstCells, loadCells, loadCellsFrom]
    · cases h
  · cases h
end
end Go.Proofs.YtmbofpmjckjceaaDoor.E
