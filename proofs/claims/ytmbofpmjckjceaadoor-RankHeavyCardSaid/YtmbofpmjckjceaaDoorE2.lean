/- The evaluator's memory and the model's: what each step keeps. No condition. -/
import Derived.Test.YtmbofpmjckjceaaDoorE1
namespace Go.Proofs.YtmbofpmjckjceaaDoor.E
open Go Go.RowKit
set_option linter.unusedVariables false
set_option linter.unusedSimpArgs false
def owner (H : Mem) (i : Nat) : Option Nat :=
  match H.obs.get i with
  | some (.blk b) => if b.ro then none else some b.fam
  | some (.map _ _) => some i
  | none => none
structure WF (H : Mem) : Prop where
  lt : ∀ i o, H.obs.get i = some o → i < H.n
  fam : ∀ i b, H.obs.get i = some (.blk b) → b.ro = false → b.fam ≤ i ∧ b.gen ≤ H.gen b.fam ∧ (b.esz = 0 → b.fam = i) ∧ (b.esz ≠ 0 → ∃ b', H.obs.get b.fam = some (.blk b') ∧ b'.esz ≠ 0 ∧ b'.ro = false)
  gen : ∀ f, H.n ≤ f → H.gens.get f = none
/-- A row of ours in the model's memory. -/
structure Row (base : Nat) (μ : Mp) (H : Mem) (w : World) (m : MA) (b : Blk) : Prop where
  spot : m.at_.spot = none
  e : m.e = b.esz
  room : m.at_.off + b.cells.length ≤ m.lim
  ro : b.ro = true → m.at_.block < base
  rw : b.ro = false → base ≤ m.at_.block ∧ m.at_.off + b.cells.length ≤ m.lim ∧ ∃ (c : Array Value) (ty : TypeId), w.heap[m.at_.block]? = some (.cells c ty (0, 0)) ∧ c.size = m.lim
  cells : b.alive H = true → ∀ (j : Nat) v, b.cells[j]? = some v → ∃ v', w.cell? (m.addr j) = some v' ∧ VR μ v v'
structure MRow (base : Nat) (μ : Mp) (w : World) (m : MA) (es : List MapEntry) (c : Nat) : Prop where
  base : base ≤ m.at_.block
  ex : ∃ es' : Array MapEntry, w.heap[m.at_.block]? = some (.map es' c) ∧ es.length = es'.size ∧ ∀ (i : Nat) e e', es[i]? = some e → es'[i]? = some e' → VR μ e.key e'.key ∧ VR μ e.val e'.val ∧ e.born = e'.born
structure Rl (base : Nat) (μ : Mp) (H : Mem) (w : World) : Prop where
  wf : WF H
  bd : base ≤ w.heap.size
  has : ∀ i m, μ i = some m → ∃ o, H.obs.get i = some o
  row : ∀ i m b, μ i = some m → H.obs.get i = some (.blk b) → Row base μ H w m b
  map : ∀ i m es c, μ i = some m → H.obs.get i = some (.map es c) → MRow base μ w m es c
  apart : ∀ i j mi mj, μ i = some mi → μ j = some mj → mi.at_.block = mj.at_.block → owner H i = owner H j
/-- What a step has done. -/
structure Stp (base : Nat) (μ : Mp) (H : Mem) (w : World) (μ' : Mp) (H' : Mem) (w' : World) : Prop where
  rl : Rl base μ' H' w'
  ext : Ext μ μ'
  new : ∀ i m, μ' i = some m → μ i = none → H.n ≤ i ∧ (w.heap.size ≤ m.at_.block ∨ ∃ j mj, μ j = some mj ∧ mj.at_.block = m.at_.block ∧ owner H j = owner H' i)
  n : H.n ≤ H'.n
  own : ∀ i, i < H.n → owner H' i = owner H i
  obs : ∀ i, i < H.n → (∀ f, owner H i = some f → f < H'.low) → H'.obs.get i = H.obs.get i
  gens : ∀ f, f < H.n → f < H'.low → H'.gens.get f = H.gens.get f
  low : H'.low ≤ H.low
  foot : ∀ B, B < w.heap.size → (∀ i m, μ i = some m → m.at_.block = B → ∀ f, owner H i = some f → f < H'.low) → w'.heap[B]? = w.heap[B]?
  os : w'.os = w.os
  tape : w'.tape = w.tape
  out : w'.output = w.output
  size : w.heap.size ≤ w'.heap.size
section
variable {base : Nat} {μ μ' μ'' : Mp} {H H' H'' : Mem} {w w' w'' : World}
theorem Rl.lt (R : Rl base μ H w) {i : Nat} {m : MA} (h : μ i = some m) : i < H.n := by obtain ⟨o, ho⟩ := R.has i m h; exact R.wf.lt i o ho
theorem owner_lt (W : WF H) {i f : Nat} (h : owner H i = some f) : f ≤ i ∧ i < H.n := by
  unfold owner at h
  split at h
  · rename_i b hb
    split at h
    · cases h
    · rename_i hr; simp at hr; cases h; exact ⟨(W.fam i b hb hr).1, W.lt _ _ hb⟩
  · rename_i es c hm; cases h; exact ⟨Nat.le_refl _, W.lt _ _ hm⟩
  · cases h
theorem Stp.refl (R : Rl base μ H w) : Stp base μ H w μ H w :=
  ⟨R, .refl μ, (fun i m h h' => by rw [h] at h'; cases h'), Nat.le_refl _, (fun _ _ => rfl), (fun _ _ _ => rfl), (fun _ _ _ => rfl), Nat.le_refl _, (fun _ _ _ => rfl), rfl, rfl, rfl, Nat.le_refl _⟩
theorem Stp.trans (R : Rl base μ H w) (S : Stp base μ H w μ' H' w') (K : Stp base μ' H' w' μ'' H'' w'') : Stp base μ H w μ'' H'' w'' := by
  refine ⟨K.rl, S.ext.trans K.ext, fun i m h h0 => ?_, Nat.le_trans S.n K.n, fun i hi => (K.own i (Nat.lt_of_lt_of_le hi S.n)).trans (S.own i hi), fun i hi hf => ?_, fun f hf hl => ?_, Nat.le_trans K.low S.low, fun B hB hf => ?_,
    K.os.trans S.os, K.tape.trans S.tape, K.out.trans S.out, Nat.le_trans S.size K.size⟩
  · cases h1 : μ' i with
    | some m1 =>
      have e := K.ext i m1 h1
      rw [h] at e; cases e
      obtain ⟨a, b⟩ := S.new i m h1 h0
      exact ⟨a, b.imp id fun ⟨j, mj, hj, hb, ho⟩ => ⟨j, mj, hj, hb, ho.trans (K.own i (S.rl.lt h1)).symm⟩⟩
    | none =>
      obtain ⟨a, b⟩ := K.new i m h h1
      refine ⟨Nat.le_trans S.n a, ?_⟩
      rcases b with b | ⟨j, mj, hj, hb, ho⟩
      · exact .inl (Nat.le_trans S.size b)
      · cases h2 : μ j with
        | some m2 =>
          have e := S.ext j m2 h2
          rw [hj] at e; cases e
          exact .inr ⟨j, mj, h2, hb, by rw [← S.own j (R.lt h2)]; exact ho⟩
        | none =>
          obtain ⟨a', b'⟩ := S.new j mj hj h2
          rcases b' with b' | ⟨k, mk, hk, hbk, hok⟩
          · exact .inl (hb ▸ b')
          · exact .inr ⟨k, mk, hk, hbk.trans hb, hok.trans ho⟩
  · rw [K.obs i (Nat.lt_of_lt_of_le hi S.n) (fun f hf' => hf f (by rw [← S.own i hi]; exact hf')), S.obs i hi (fun f hf' => Nat.lt_of_lt_of_le (hf f hf') K.low)]
  · rw [K.gens f (Nat.lt_of_lt_of_le hf S.n) hl, S.gens f hf (Nat.lt_of_lt_of_le hl K.low)]
  · rw [K.foot B (Nat.lt_of_lt_of_le hB S.size) (fun i m hm hb f ho => ?_), S.foot B hB (fun i m hm hb f ho => Nat.lt_of_lt_of_le (hf i m hm hb f ho) K.low)]
    cases h1 : μ i with
    | some m1 =>
      have e := S.ext i m1 h1
      rw [hm] at e; cases e
      exact hf i m h1 hb f (by rw [← S.own i (R.lt h1)]; exact ho)
    | none =>
      obtain ⟨a, b⟩ := S.new i m hm h1
      rcases b with b | ⟨j, mj, hj, hbj, ho'⟩
      · omega
      · exact hf j mj hj (hbj.trans hb) f (ho'.trans ho)
/-! ### New rows -/
def upd (μ : Mp) (i : Nat) (m : MA) : Mp := fun j => if j = i then some m else μ j
theorem upd_same (μ : Mp) (i : Nat) (m : MA) : upd μ i m i = some m := if_pos rfl
theorem upd_ne (μ : Mp) {i j : Nat} (m : MA) (h : j ≠ i) : upd μ i m j = μ j := if_neg h
theorem Rl.free (R : Rl base μ H w) {i : Nat} (h : H.n ≤ i) : μ i = none := by
  cases hm : μ i with
  | none => rfl
  | some m => have := R.lt hm; omega
theorem Rl.ext_upd (R : Rl base μ H w) (m : MA) : Ext μ (upd μ H.n m) := fun i m' h => by rw [upd_ne μ m (fun e => by have := R.lt h; omega)]; exact h
theorem WF.noneAt (W : WF H) {i : Nat} (h : H.n ≤ i) : H.obs.get i = none := by
  cases ho : H.obs.get i with
  | none => rfl
  | some o => have := W.lt i o ho; omega
theorem heap_push_lt (w : World) (o : Obj) {k : Nat} (h : k < w.heap.size) : (w.alloc o).heap[k]? = w.heap[k]? := Below.heap_alloc w o k h
theorem heap_push_new (w : World) (o : Obj) : (w.alloc o).heap[w.heap.size]? = some o := by show (w.heap.push o)[w.heap.size]? = _; simp
/-- A row in a world of which the block is as it was. -/
theorem Row.keep {m : MA} {b : Blk} (r : Row base μ H w m b) (he : Ext μ μ') (ha : b.alive H' = true → b.alive H = true) (hb : w'.heap[m.at_.block]? = w.heap[m.at_.block]?) : Row base μ' H' w' m b := by
  refine ⟨r.spot, r.e, r.room, r.ro, fun h => ?_, fun h j v hv => ?_⟩
  · rw [hb]; exact r.rw h
  · obtain ⟨v', h1, h2⟩ := r.cells (ha h) j v hv
    exact ⟨v', by rw [← h1]; exact World.cell?_of_block (w := w) hb, h2.mono he⟩
theorem MRow.keep {m : MA} {es : List MapEntry} {c : Nat} (r : MRow base μ w m es c) (he : Ext μ μ') (hb : w'.heap[m.at_.block]? = w.heap[m.at_.block]?) : MRow base μ' w' m es c := by
  obtain ⟨es', h1, h2, h3⟩ := r.ex
  refine ⟨r.base, es', by rw [hb]; exact h1, h2, fun i e e' a b => ?_⟩
  obtain ⟨x, y, z⟩ := h3 i e e' a b
  exact ⟨x.mono he, y.mono he, z⟩
/-- The block of a row that is mapped is there. -/
theorem Rl.blk_lt (R : Rl base μ H w) {i : Nat} {m : MA} (h : μ i = some m) : m.at_.block < w.heap.size := by
  obtain ⟨o, ho⟩ := R.has i m h
  cases o with
  | blk b =>
    have r := R.row i m b h ho
    cases hr : b.ro with
    | true => exact Nat.lt_of_lt_of_le (r.ro hr) R.bd
    | false => obtain ⟨_, _, c, ty, hc, _⟩ := r.rw hr; exact (Array.getElem?_eq_some_iff.1 hc).1
  | map es c => obtain ⟨es', hc, _⟩ := (R.map i m es c h ho).ex; exact (Array.getElem?_eq_some_iff.1 hc).1
theorem gen_set (H : Mem) (f g x : Nat) : (({ H with gens := H.gens.set f x } : Mem).gen g) = if f = g then x else H.gen g := by
  unfold Mem.gen; simp only [Tr.get_set]; split <;> rfl
theorem WF.new (W : WF H) (cs : List Value) (e : Nat) : WF (H.new cs e) := by
  have hget : ∀ i, (H.new cs e).obs.get i = if H.n = i then some (.blk ⟨cs, e, H.n, 0, false⟩) else H.obs.get i := fun i => Tr.get_set _ _ _ _
  refine ⟨fun i o h => ?_, fun i b h hr => ?_, fun f h => W.gen f (Nat.le_of_succ_le h)⟩
  · rw [hget] at h
    show i < H.n + 1
    split at h
    · omega
    · have := W.lt i o h; omega
  · rw [hget] at h
    split at h
    · rename_i hi
      cases h
      refine ⟨by simp [hi], by simp, by simp [hi], fun he => ⟨_, by rw [hget]; exact if_pos rfl, he, rfl⟩⟩
    · obtain ⟨a, b1, c, d⟩ := W.fam i b h hr
      refine ⟨a, b1, c, fun he => ?_⟩
      obtain ⟨b', hb', x⟩ := d he
      exact ⟨b', by rw [hget, if_neg (by have := W.lt _ _ hb'; omega)]; exact hb', x⟩
theorem owner_of {H H' : Mem} {i : Nat} (h : H'.obs.get i = H.obs.get i) : owner H' i = owner H i := by unfold owner; rw [h]
theorem owner_blk {H : Mem} {i : Nat} {b : Blk} (h : H.obs.get i = some (.blk b)) : owner H i = if b.ro then none else some b.fam := by unfold owner; rw [h]
theorem owner_map {H : Mem} {i : Nat} {es : List MapEntry} {c : Nat} (h : H.obs.get i = some (.map es c)) : owner H i = some i := by unfold owner; rw [h]
theorem owner_new (H : Mem) (cs : List Value) (e i : Nat) : owner (H.new cs e) i = if H.n = i then some H.n else owner H i := by
  have hget : (H.new cs e).obs.get i = if H.n = i then some (.blk ⟨cs, e, H.n, 0, false⟩) else H.obs.get i := Tr.get_set _ _ _ _
  split
  · rename_i h; rw [if_pos h] at hget; rw [owner_blk hget]; rfl
  · rename_i h; rw [if_neg h] at hget; exact owner_of hget
/-- A new row, of which the model's may be longer. -/
theorem Rl.new (R : Rl base μ H w) {cs cs' : List Value} (e : Nat) (ty : TypeId) (more : List Value) (hv : VRs μ cs cs') :
    Stp base μ H w (upd μ H.n ⟨⟨w.heap.size, 0, none⟩, (cs' ++ more).length, e⟩) (H.new cs e) (w.alloc (.cells (cs' ++ more).toArray ty (0, 0))) := by
  have hx := R.ext_upd ⟨⟨w.heap.size, 0, none⟩, (cs' ++ more).length, e⟩
  have hget : ∀ i, (H.new cs e).obs.get i = if H.n = i then some (.blk ⟨cs, e, H.n, 0, false⟩) else H.obs.get i := fun i => Tr.get_set _ _ _ _
  refine ⟨⟨R.wf.new cs e, by simp; have := R.bd; omega, fun i m h => ?_, fun i m b h ho => ?_, fun i m es c h ho => ?_, fun i j mi mj hi hj hb => ?_⟩, hx, fun i m h h0 => ?_, Nat.le_succ _, fun i hi => ?_, fun i hi _ => ?_, fun f _ _ => rfl, Nat.le_refl _, fun B hB _ => heap_push_lt _ _ hB, rfl, rfl, rfl, by simp⟩
  · by_cases hi : i = H.n
    · subst hi; exact ⟨_, (hget _).trans (if_pos rfl)⟩
    · rw [upd_ne μ _ hi] at h
      obtain ⟨o, ho⟩ := R.has i m h
      exact ⟨o, by rw [hget, if_neg (Ne.symm hi)]; exact ho⟩
  · by_cases hi : i = H.n
    · subst hi
      rw [upd_same] at h; cases h
      rw [hget, if_pos rfl] at ho; cases ho
      refine ⟨rfl, rfl, by simp [hv.1], fun h => by simp at h, fun _ => ⟨R.bd, by simp [hv.1], _, ty, heap_push_new _ _, by simp⟩, fun _ j v hj => ?_⟩
      have hl : j < cs'.length := by have := (List.getElem?_eq_some_iff.1 hj).1; rw [← hv.1]; exact this
      refine ⟨cs'[j], ?_, (hv.2 j v _ hj (List.getElem?_eq_getElem hl)).mono hx⟩
      show (w.alloc _).cell? ⟨w.heap.size, 0 + j, none⟩ = _
      rw [Nat.zero_add, World.cell?_alloc_new]
      simp [List.getElem?_append_left hl, hl]
    · rw [upd_ne μ _ hi] at h
      rw [hget, if_neg (Ne.symm hi)] at ho
      exact (R.row i m b h ho).keep hx (fun h => h) (heap_push_lt _ _ (R.blk_lt h))
  · by_cases hi : i = H.n
    · subst hi; rw [hget, if_pos rfl] at ho; cases ho
    · rw [upd_ne μ _ hi] at h
      rw [hget, if_neg (Ne.symm hi)] at ho
      exact (R.map i m es c h ho).keep hx (heap_push_lt _ _ (R.blk_lt h))
  · rw [owner_new, owner_new]
    by_cases h1 : i = H.n
    · by_cases h2 : j = H.n
      · rw [h1, h2]
      · rw [h1, upd_same] at hi; cases hi
        rw [upd_ne μ _ h2] at hj
        have := R.blk_lt hj
        simp at hb; omega
    · by_cases h2 : j = H.n
      · rw [h2, upd_same] at hj; cases hj
        rw [upd_ne μ _ h1] at hi
        have := R.blk_lt hi
        simp at hb; omega
      · rw [if_neg (Ne.symm h1), if_neg (Ne.symm h2)]
        rw [upd_ne μ _ h1] at hi
        rw [upd_ne μ _ h2] at hj
        exact R.apart i j mi mj hi hj hb
  · by_cases hi : i = H.n
    · subst hi; rw [upd_same] at h; cases h; exact ⟨Nat.le_refl _, .inl (Nat.le_refl _)⟩
    · rw [upd_ne μ _ hi, h0] at h; cases h
  · rw [owner_new, if_neg (by omega)]
  · rw [hget, if_neg (by omega)]
/-! ### A row is written -/
theorem live_some {i : Nat} {b : Blk} (h : H.live i = some b) : H.obs.get i = some (.blk b) ∧ b.alive H = true := by
  unfold Mem.live at h
  split at h
  · rename_i b' hb
    split at h
    · rename_i ha; cases h; exact ⟨hb, ha⟩
    · cases h
  · cases h
theorem live_of {i : Nat} {b : Blk} (h : H.obs.get i = some (.blk b)) (ha : b.alive H = true) : H.live i = some b := by unfold Mem.live; rw [h]; simp [ha]
theorem alive_gen {b : Blk} (h : b.alive H = true) (hr : b.ro = false) : b.gen = H.gen b.fam := by simpa [Blk.alive, hr] using h
theorem WF.same_fam (W : WF H) {i j : Nat} {b c : Blk} (hi : H.obs.get i = some (.blk b)) (hj : H.obs.get j = some (.blk c)) (rb : b.ro = false) (rc : c.ro = false) (hf : c.fam = b.fam) (he : b.esz = 0) : j = i := by
  obtain ⟨_, _, a, _⟩ := W.fam i b hi rb
  obtain ⟨_, _, x, y⟩ := W.fam j c hj rc
  by_cases h0 : c.esz = 0
  · rw [← x h0, hf, a he]
  · obtain ⟨b', hb', hne, _⟩ := y h0
    rw [hf, a he, hi] at hb'
    cases hb'
    exact absurd he hne
theorem put_get (H : Mem) (i : Nat) (b : Blk) (cs : List Value) (j : Nat) : (H.put i b cs).obs.get j = if i = j then some (.blk { b with cells := cs, gen := if b.esz = 0 then b.gen else H.gen b.fam + 1 }) else H.obs.get j := by
  unfold Mem.put; split <;> simp only [Tr.get_set]
theorem put_gen (H : Mem) (i : Nat) (b : Blk) (cs : List Value) (f : Nat) : (H.put i b cs).gen f = if b.esz ≠ 0 ∧ b.fam = f then H.gen b.fam + 1 else H.gen f := by
  unfold Mem.put
  by_cases h : b.esz = 0
  · simp [h, Mem.gen]
  · simp only [h, if_false, not_false_eq_true, true_and, ne_eq]
    by_cases hf : b.fam = f <;> simp [Mem.gen, Tr.get_set, hf]
theorem owner_put {i : Nat} {b : Blk} (h : H.obs.get i = some (.blk b)) (cs : List Value) (j : Nat) : owner (H.put i b cs) j = owner H j := by
  have hg := put_get H i b cs j
  by_cases e : i = j
  · subst e; rw [if_pos rfl] at hg; rw [owner_blk hg, owner_blk h]
  · rw [if_neg e] at hg; exact owner_of hg
theorem WF.put (W : WF H) {i : Nat} {b : Blk} (h : H.obs.get i = some (.blk b)) (hr : b.ro = false) (ha : b.alive H = true) (cs : List Value) : WF (H.put i b cs) := by
  have hn : (H.put i b cs).n = H.n := by unfold Mem.put; split <;> rfl
  have hb := W.fam i b h hr
  refine ⟨fun j o hj => ?_, fun j c hj hc => ?_, fun f hf => ?_⟩
  · rw [put_get] at hj
    rw [hn]
    split at hj
    · rename_i e; exact e ▸ W.lt i _ h
    · exact W.lt j o hj
  · rw [put_get] at hj
    have key : ∀ f b', H.obs.get f = some (.blk b') → b'.esz ≠ 0 → b'.ro = false → ∃ b'', (H.put i b cs).obs.get f = some (.blk b'') ∧ b''.esz ≠ 0 ∧ b''.ro = false := fun f b' hf he hr' => by
      rw [put_get]
      split
      · rename_i e; subst e; rw [h] at hf; cases hf; exact ⟨_, rfl, he, hr'⟩
      · exact ⟨b', hf, he, hr'⟩
    split at hj
    · rename_i e
      subst e
      cases hj
      refine ⟨hb.1, ?_, hb.2.2.1, fun he => ?_⟩
      · rw [put_gen]
        by_cases h0 : b.esz = 0
        · simp [h0]; exact hb.2.1
        · simp [h0]
      · obtain ⟨b', h1, h2, h3⟩ := hb.2.2.2 he; exact key _ b' h1 h2 h3
    · obtain ⟨a1, a2, a3, a4⟩ := W.fam j c hj hc
      refine ⟨a1, ?_, a3, fun he => ?_⟩
      · rw [put_gen]
        split
        · rename_i hh; rw [← hh.2] at a2; omega
        · exact a2
      · obtain ⟨b', h1, h2, h3⟩ := a4 he; exact key _ b' h1 h2 h3
  · rw [hn] at hf
    unfold Mem.put
    split
    · exact W.gen f hf
    · show (H.gens.set b.fam _).get f = none
      rw [Tr.get_set, if_neg (by have := W.lt i _ h; omega)]
      exact W.gen f hf
theorem Rl.put (R : Rl base μ H w) {i : Nat} {m : MA} {b : Blk} (hm : μ i = some m) (hl : H.live i = some b) (hr : b.ro = false) {cs : List Value} (hn : cs.length = b.cells.length)
    {c : Array Value} {ty : TypeId} (hc : w.heap[m.at_.block]? = some (.cells c ty (0, 0))) {c' : Array Value} (hs : c'.size = c.size)
    (hv : ∀ (j : Nat) v, cs[j]? = some v → ∃ v', c'[m.at_.off + j]? = some v' ∧ VR μ v v') :
    Stp base μ H w μ (H.put i b cs) (w.setRow m.at_.block c') := by
  obtain ⟨ho, ha⟩ := live_some hl
  have hi := R.row i m b hm ho
  have hown : owner H i = some b.fam := by rw [owner_blk ho, hr]; rfl
  have hnn : (H.put i b cs).n = H.n := by unfold Mem.put; split <;> rfl
  have hlow : (H.put i b cs).low = min H.low b.fam := by unfold Mem.put; split <;> rfl
  have hsame : (w.setRow m.at_.block c').heap[m.at_.block]? = some (.cells c' ty (0, 0)) := setRow_heap w _ _ _ _ _ hc
  refine ⟨⟨R.wf.put ho hr ha cs, by rw [setRow_size]; exact R.bd, fun j mj h => ?_, fun j mj bj h hj => ?_, fun j mj es cl h hj => ?_, fun j k mj mk h1 h2 hb => ?_⟩, .refl μ, (fun j mj h h0 => by rw [h] at h0; cases h0),
    by rw [hnn]; exact Nat.le_refl _, fun j hj => owner_put ho cs j, fun j hj hf => ?_, fun f hf hfl => ?_, by rw [hlow]; omega, fun B hB hf => ?_, setRow_os _ _ _, setRow_tape _ _ _, setRow_output _ _ _, by rw [setRow_size]; exact Nat.le_refl _⟩
  · obtain ⟨o, hoj⟩ := R.has j mj h
    rw [put_get]
    split
    · exact ⟨_, rfl⟩
    · exact ⟨o, hoj⟩
  · rw [put_get] at hj
    by_cases e : i = j
    · subst e
      rw [if_pos rfl] at hj
      cases hj
      rw [hm] at h; cases h
      obtain ⟨x1, x2, c0, ty0, x3, x4⟩ := hi.rw hr
      rw [hc] at x3; cases x3
      refine ⟨hi.spot, hi.e, by simpa [hn] using x2, fun hh => absurd hh (by simp [hr]), fun _ => ⟨x1, by simpa [hn] using x2, c', ty, hsame, by rw [hs, x4]⟩, fun _ q v hq => ?_⟩
      obtain ⟨v', h1, h2⟩ := hv q v hq
      exact ⟨v', by show World.cell? _ ⟨m.at_.block, m.at_.off + q, none⟩ = _; rw [cell_setRow_same w _ _ _ _ _ _ hc]; exact h1, h2⟩
    · rw [if_neg e] at hj
      have r := R.row j mj bj h hj
      by_cases hB : mj.at_.block = m.at_.block
      · have hoo := R.apart j i mj m h hm hB
        rw [hown, owner_blk hj] at hoo
        have hrj : bj.ro = false := by cases hx : bj.ro with | false => rfl | true => simp [hx] at hoo
        simp only [hrj, Bool.false_eq_true, if_false, Option.some.injEq] at hoo
        have he : b.esz ≠ 0 := fun h0 => e (R.wf.same_fam ho hj hr hrj hoo h0).symm
        obtain ⟨x1, x2, c0, ty0, x3, x4⟩ := r.rw hrj
        rw [hB, hc] at x3; cases x3
        refine ⟨r.spot, r.e, r.room, r.ro, fun _ => ⟨x1, x2, c', ty, by rw [hB]; exact hsame, by rw [hs, x4]⟩, fun hal => ?_⟩
        have g1 := alive_gen hal hrj
        have g2 := (R.wf.fam j bj hj hrj).2.1
        rw [put_gen, if_pos ⟨he, hoo.symm⟩] at g1
        rw [hoo] at g2
        omega
      · exact r.keep (.refl μ) (fun hal => by
          cases hrj : bj.ro with
          | true => simp [Blk.alive, hrj]
          | false =>
            have g := alive_gen hal hrj
            rw [put_gen] at g
            split at g
            · rename_i hh
              have := (R.wf.fam j bj hj hrj).2.1
              rw [← hh.2] at this
              omega
            · simp [Blk.alive, hrj, g]) (setRow_other w _ _ _ hB)
  · rw [put_get] at hj
    by_cases e : i = j
    · subst e; rw [if_pos rfl] at hj; cases hj
    · rw [if_neg e] at hj
      refine (R.map j mj es cl h hj).keep (.refl μ) (setRow_other w _ _ _ fun hB => ?_)
      obtain ⟨es', hx, _⟩ := (R.map j mj es cl h hj).ex
      rw [hB, hc] at hx
      cases hx
  · rw [owner_put ho, owner_put ho]; exact R.apart j k mj mk h1 h2 hb
  · rw [put_get, if_neg]
    intro e
    subst e
    have := hf b.fam hown
    rw [hlow] at this
    omega
  · rw [hlow] at hfl
    unfold Mem.put
    split
    · rfl
    · exact Tr.get_set_ne _ _ (by omega)
  · refine setRow_other w _ _ _ fun e => ?_
    have := hf i m hm e.symm b.fam hown
    rw [hlow] at this
    omega
/-! ### A row grows -/
theorem grow_get (H : Mem) (i : Nat) (b : Blk) (keep : Bool) (cs : List Value) (j : Nat) : (H.grow i b keep cs).obs.get j =
    if H.n = j then some (.blk ⟨cs, b.esz, b.fam, H.gen b.fam + 1, false⟩) else if keep = true ∧ i = j then some (.blk { b with gen := H.gen b.fam + 1 }) else H.obs.get j := by
  unfold Mem.grow
  simp only [Tr.get_set]
  split
  · rfl
  · cases keep
    · simp
    · simp [Tr.get_set]
theorem grow_gen (H : Mem) (i : Nat) (b : Blk) (keep : Bool) (cs : List Value) (f : Nat) : (H.grow i b keep cs).gen f = if b.fam = f then H.gen b.fam + 1 else H.gen f := by
  unfold Mem.grow Mem.gen
  simp only [Tr.get_set]
  split <;> rfl
theorem owner_grow {i : Nat} {b : Blk} (h : H.obs.get i = some (.blk b)) (hr : b.ro = false) (keep : Bool) (cs : List Value) (j : Nat) : owner (H.grow i b keep cs) j = if H.n = j then some b.fam else owner H j := by
  have hg := grow_get H i b keep cs j
  by_cases e : H.n = j
  · rw [if_pos e] at hg; rw [owner_blk hg, if_pos e]; rfl
  · rw [if_neg e] at hg
    rw [if_neg e]
    by_cases k : keep = true ∧ i = j
    · rw [if_pos k] at hg; rw [owner_blk hg, ← k.2, owner_blk h]
    · rw [if_neg k] at hg; exact owner_of hg
theorem WF.grow (W : WF H) {i : Nat} {b : Blk} (h : H.obs.get i = some (.blk b)) (hr : b.ro = false) (he : b.esz ≠ 0) (keep : Bool) (cs : List Value) : WF (H.grow i b keep cs) := by
  have hb := W.fam i b h hr
  have hi := W.lt i _ h
  have key : ∀ f b', H.obs.get f = some (.blk b') → b'.esz ≠ 0 → b'.ro = false → ∃ b'', (H.grow i b keep cs).obs.get f = some (.blk b'') ∧ b''.esz ≠ 0 ∧ b''.ro = false := fun f b' hf he hr' => by
    rw [grow_get, if_neg (by have := W.lt _ _ hf; omega)]
    split
    · rename_i e; rw [← e.2, h] at hf; cases hf; exact ⟨_, rfl, he, hr'⟩
    · exact ⟨b', hf, he, hr'⟩
  refine ⟨fun j o hj => ?_, fun j c hj hc => ?_, fun f hf => ?_⟩
  · show j < H.n + 1
    rw [grow_get] at hj
    split at hj
    · omega
    · split at hj
      · omega
      · have := W.lt j o hj; omega
  · rw [grow_get] at hj
    split at hj
    · rename_i e
      cases hj
      refine ⟨by show b.fam ≤ j; omega, by rw [grow_gen]; simp, fun h0 => absurd h0 he, fun _ => ?_⟩
      obtain ⟨b', h1, h2, h3⟩ := hb.2.2.2 he; exact key _ b' h1 h2 h3
    · split at hj
      · rename_i _ e
        cases hj
        refine ⟨e.2 ▸ hb.1, by rw [grow_gen]; simp, fun h0 => absurd h0 he, fun _ => ?_⟩
        obtain ⟨b', h1, h2, h3⟩ := hb.2.2.2 he; exact key _ b' h1 h2 h3
      · obtain ⟨a1, a2, a3, a4⟩ := W.fam j c hj hc
        refine ⟨a1, ?_, a3, fun he => ?_⟩
        · rw [grow_gen]
          split
          · rename_i hh; rw [← hh] at a2; omega
          · exact a2
        · obtain ⟨b', h1, h2, h3⟩ := a4 he; exact key _ b' h1 h2 h3
  · have hf : H.n + 1 ≤ f := hf
    show (H.gens.set b.fam _).get f = none
    rw [Tr.get_set, if_neg (by omega)]
    exact W.gen f (by omega)
/-- The row's own block may have been written beyond what it holds; the new row lies there, or in a new block. -/
theorem Rl.grow (R : Rl base μ H w) {i : Nat} {m : MA} {b : Blk} (hm : μ i = some m) (hl : H.live i = some b) (hr : b.ro = false) (he : b.esz ≠ 0) (keep : Bool) {cs : List Value}
    {c : Array Value} {ty : TypeId} (hc : w.heap[m.at_.block]? = some (.cells c ty (0, 0))) {c' : Array Value} (hs : c'.size = c.size)
    (hw : ∀ k, k < w.heap.size → k ≠ m.at_.block → w'.heap[k]? = w.heap[k]?) (hw' : w'.heap[m.at_.block]? = some (.cells c' ty (0, 0))) (hsz : w.heap.size ≤ w'.heap.size) (hos : w'.os = w.os) (htp : w'.tape = w.tape) (hout : w'.output = w.output)
    (hkeep : keep = true → ∀ (j : Nat) v, b.cells[j]? = some v → ∃ v', c'[m.at_.off + j]? = some v' ∧ VR μ v v')
    {mn : MA} (ns : mn.at_.spot = none) (ne : mn.e = b.esz) {cn : Array Value} {tn : TypeId} (nc : w'.heap[mn.at_.block]? = some (.cells cn tn (0, 0))) (nl : cn.size = mn.lim) (nf : mn.at_.off + cs.length ≤ mn.lim)
    (nb : mn.at_.block = m.at_.block ∨ w.heap.size ≤ mn.at_.block) (hv : ∀ (j : Nat) v, cs[j]? = some v → ∃ v', cn[mn.at_.off + j]? = some v' ∧ VR μ v v') :
    Stp base μ H w (upd μ H.n mn) (H.grow i b keep cs) w' := by
  obtain ⟨ho, ha⟩ := live_some hl
  have hi := R.row i m b hm ho
  have hiB := R.blk_lt hm
  have hil := R.lt hm
  have hown : owner H i = some b.fam := by rw [owner_blk ho, hr]; rfl
  have hx := R.ext_upd mn
  have hlow : (H.grow i b keep cs).low = min H.low b.fam := rfl
  have hbb : base ≤ mn.at_.block := by
    obtain ⟨x1, _⟩ := hi.rw hr
    have := R.bd
    rcases nb with e | e
    · rw [e]; exact x1
    · omega
  refine ⟨⟨R.wf.grow ho hr he keep cs, Nat.le_trans R.bd hsz, fun j mj h => ?_, fun j mj bj h hj => ?_, fun j mj es cl h hj => ?_, fun j k mj mk h1 h2 hb => ?_⟩, hx, fun j mj h h0 => ?_,
    Nat.le_succ _, fun j hj => by rw [owner_grow ho hr, if_neg (by omega)], fun j hj hf => ?_, fun f hf hfl => ?_, by rw [hlow]; omega, fun B hB hf => ?_, hos, htp, hout, hsz⟩
  · rw [grow_get]
    split
    · exact ⟨_, rfl⟩
    · rename_i e
      rw [upd_ne μ _ (Ne.symm e)] at h
      obtain ⟨o, hoj⟩ := R.has j mj h
      split
      · exact ⟨_, rfl⟩
      · exact ⟨o, hoj⟩
  · by_cases e : H.n = j
    · subst e
      rw [upd_same] at h; cases h
      rw [grow_get, if_pos rfl] at hj; cases hj
      refine ⟨ns, ne, nf, fun h => by simp at h, fun _ => ⟨hbb, nf, cn, tn, nc, nl⟩, fun _ q v hq => ?_⟩
      obtain ⟨v', h1, h2⟩ := hv q v hq
      exact ⟨v', by show World.cell? _ ⟨_, _, none⟩ = _; simp only [World.cell?, nc]; simpa using h1, h2.mono hx⟩
    · rw [upd_ne μ _ (Ne.symm e)] at h
      rw [grow_get, if_neg e] at hj
      by_cases k : keep = true ∧ i = j
      · rw [if_pos k] at hj
        obtain ⟨k1, rfl⟩ := k
        cases hj
        rw [hm] at h; cases h
        obtain ⟨x1, x2, c0, ty0, x3, x4⟩ := hi.rw hr
        rw [hc] at x3; cases x3
        refine ⟨hi.spot, hi.e, hi.room, fun hh => absurd hh (by simp [hr]), fun _ => ⟨x1, x2, c', ty, hw', by rw [hs, x4]⟩, fun _ q v hq => ?_⟩
        obtain ⟨v', h1, h2⟩ := hkeep k1 q v hq
        exact ⟨v', by show World.cell? _ ⟨_, _, none⟩ = _; simp only [World.cell?, hw']; simpa using h1, h2.mono hx⟩
      · rw [if_neg k] at hj
        have r := R.row j mj bj h hj
        by_cases hB : mj.at_.block = m.at_.block
        · have hoo := R.apart j i mj m h hm hB
          rw [hown, owner_blk hj] at hoo
          have hrj : bj.ro = false := by cases hx : bj.ro with | false => rfl | true => simp [hx] at hoo
          simp only [hrj, Bool.false_eq_true, if_false, Option.some.injEq] at hoo
          obtain ⟨x1, x2, c0, ty0, x3, x4⟩ := r.rw hrj
          rw [hB, hc] at x3; cases x3
          refine ⟨r.spot, r.e, r.room, r.ro, fun _ => ⟨x1, x2, c', ty, by rw [hB]; exact hw', by rw [hs, x4]⟩, fun hal => ?_⟩
          have g1 := alive_gen hal hrj
          have g2 := (R.wf.fam j bj hj hrj).2.1
          rw [grow_gen, if_pos hoo.symm] at g1
          rw [hoo] at g2
          omega
        · exact r.keep hx (fun hal => by
            cases hrj : bj.ro with
            | true => simp [Blk.alive, hrj]
            | false =>
              have g := alive_gen hal hrj
              rw [grow_gen] at g
              split at g
              · rename_i hh
                have := (R.wf.fam j bj hj hrj).2.1
                rw [← hh] at this
                omega
              · simp [Blk.alive, hrj, g]) (hw _ (R.blk_lt h) hB)
  · by_cases e : H.n = j
    · subst e; rw [grow_get, if_pos rfl] at hj; cases hj
    · rw [upd_ne μ _ (Ne.symm e)] at h
      rw [grow_get, if_neg e] at hj
      by_cases k : keep = true ∧ i = j
      · rw [if_pos k] at hj; cases hj
      · rw [if_neg k] at hj
        refine (R.map j mj es cl h hj).keep hx (hw _ (R.blk_lt h) fun hB => ?_)
        obtain ⟨es', hx, _⟩ := (R.map j mj es cl h hj).ex
        rw [hB, hc] at hx
        cases hx
  · rw [owner_grow ho hr, owner_grow ho hr]
    have old : ∀ q mq, μ q = some mq → mq.at_.block = mn.at_.block → owner H q = some b.fam := fun q mq hq hb => by
      rcases nb with e | e
      · rw [← hown]; exact R.apart q i mq m hq hm (hb.trans e)
      · have := R.blk_lt hq; omega
    by_cases h1' : H.n = j
    · by_cases h2' : H.n = k
      · rw [if_pos h1', if_pos h2']
      · rw [if_pos h1', if_neg h2']
        subst h1'
        rw [upd_same] at h1; cases h1
        rw [upd_ne μ _ (Ne.symm h2')] at h2
        exact (old k mk h2 hb.symm).symm
    · by_cases h2' : H.n = k
      · rw [if_neg h1', if_pos h2']
        subst h2'
        rw [upd_same] at h2; cases h2
        rw [upd_ne μ _ (Ne.symm h1')] at h1
        exact old j mj h1 hb
      · rw [if_neg h1', if_neg h2']
        rw [upd_ne μ _ (Ne.symm h1')] at h1
        rw [upd_ne μ _ (Ne.symm h2')] at h2
        exact R.apart j k mj mk h1 h2 hb
  · by_cases e : j = H.n
    · subst e
      rw [upd_same] at h; cases h
      refine ⟨Nat.le_refl _, ?_⟩
      rcases nb with nb | nb
      · exact .inr ⟨i, m, hm, nb.symm, by rw [owner_grow ho hr, if_pos rfl, hown]⟩
      · exact .inl nb
    · rw [upd_ne μ _ e, h0] at h; cases h
  · rw [grow_get, if_neg (by omega), if_neg]
    rintro ⟨_, e⟩
    subst e
    have := hf b.fam hown
    rw [hlow] at this
    omega
  · rw [hlow] at hfl
    exact Tr.get_set_ne _ _ (by omega)
  · refine hw B hB fun e => ?_
    have := hf i m hm e.symm b.fam hown
    rw [hlow] at this
    omega
/-! ### Maps -/
theorem owner_newMap (H : Mem) (i : Nat) : owner H.newMap i = if H.n = i then some H.n else owner H i := by
  have hget : H.newMap.obs.get i = if H.n = i then some (.map [] 0) else H.obs.get i := Tr.get_set _ _ _ _
  split
  · rename_i h; rw [if_pos h] at hget; rw [owner_map hget, h]
  · rename_i h; rw [if_neg h] at hget; exact owner_of hget
theorem WF.newMap (W : WF H) : WF H.newMap := by
  have hget : ∀ i, H.newMap.obs.get i = if H.n = i then some (.map [] 0) else H.obs.get i := fun i => Tr.get_set _ _ _ _
  refine ⟨fun i o h => ?_, fun i b h hr => ?_, fun f h => W.gen f (Nat.le_of_succ_le h)⟩
  · rw [hget] at h
    show i < H.n + 1
    split at h
    · omega
    · have := W.lt i o h; omega
  · rw [hget] at h
    split at h
    · cases h
    · obtain ⟨a, b1, c, d⟩ := W.fam i b h hr
      refine ⟨a, b1, c, fun he => ?_⟩
      obtain ⟨b', hb', x⟩ := d he
      exact ⟨b', by rw [hget, if_neg (by have := W.lt _ _ hb'; omega)]; exact hb', x⟩
theorem Rl.newMap (R : Rl base μ H w) : Stp base μ H w (upd μ H.n ⟨⟨w.heap.size, 0, none⟩, 0, 0⟩) H.newMap (w.alloc (.map #[] 0)) := by
  have hx := R.ext_upd ⟨⟨w.heap.size, 0, none⟩, 0, 0⟩
  have hget : ∀ i, H.newMap.obs.get i = if H.n = i then some (.map [] 0) else H.obs.get i := fun i => Tr.get_set _ _ _ _
  refine ⟨⟨R.wf.newMap, by simp; have := R.bd; omega, fun i m h => ?_, fun i m b h ho => ?_, fun i m es c h ho => ?_, fun i j mi mj hi hj hb => ?_⟩, hx, fun i m h h0 => ?_, Nat.le_succ _, fun i hi => ?_, fun i hi _ => ?_, fun f _ _ => rfl, Nat.le_refl _, fun B hB _ => heap_push_lt _ _ hB, rfl, rfl, rfl, by simp⟩
  · by_cases hi : i = H.n
    · subst hi; exact ⟨_, (hget _).trans (if_pos rfl)⟩
    · rw [upd_ne μ _ hi] at h
      obtain ⟨o, ho⟩ := R.has i m h
      exact ⟨o, by rw [hget, if_neg (Ne.symm hi)]; exact ho⟩
  · by_cases hi : i = H.n
    · subst hi; rw [hget, if_pos rfl] at ho; cases ho
    · rw [upd_ne μ _ hi] at h
      rw [hget, if_neg (Ne.symm hi)] at ho
      exact (R.row i m b h ho).keep hx (fun h => h) (heap_push_lt _ _ (R.blk_lt h))
  · by_cases hi : i = H.n
    · subst hi
      rw [upd_same] at h; cases h
      rw [hget, if_pos rfl] at ho; cases ho
      exact ⟨R.bd, #[], heap_push_new _ _, rfl, fun i e e' a => by simp at a⟩
    · rw [upd_ne μ _ hi] at h
      rw [hget, if_neg (Ne.symm hi)] at ho
      exact (R.map i m es c h ho).keep hx (heap_push_lt _ _ (R.blk_lt h))
  · rw [owner_newMap, owner_newMap]
    by_cases h1 : i = H.n
    · by_cases h2 : j = H.n
      · rw [h1, h2]
      · rw [h1, upd_same] at hi; cases hi
        rw [upd_ne μ _ h2] at hj
        have := R.blk_lt hj
        simp at hb; omega
    · by_cases h2 : j = H.n
      · rw [h2, upd_same] at hj; cases hj
        rw [upd_ne μ _ h1] at hi
        have := R.blk_lt hi
        simp at hb; omega
      · rw [if_neg (Ne.symm h1), if_neg (Ne.symm h2)]
        rw [upd_ne μ _ h1] at hi
        rw [upd_ne μ _ h2] at hj
        exact R.apart i j mi mj hi hj hb
  · by_cases hi : i = H.n
    · subst hi; rw [upd_same] at h; cases h; exact ⟨Nat.le_refl _, .inl (Nat.le_refl _)⟩
    · rw [upd_ne μ _ hi, h0] at h; cases h
  · rw [owner_newMap, if_neg (by omega)]
  · rw [hget, if_neg (by omega)]
theorem putMap_get (H : Mem) (r : Nat) (es : List MapEntry) (c j : Nat) : (H.putMap r es c).obs.get j = if r = j then some (.map es c) else H.obs.get j := Tr.get_set _ _ _ _
theorem getMap_some {r c : Nat} {es : List MapEntry} (h : H.getMap r = some (es, c)) : H.obs.get r = some (.map es c) := by
  unfold Mem.getMap at h
  split at h
  · rename_i ho; cases h; exact ho
  · cases h
theorem Rl.putMap (R : Rl base μ H w) {r c0 c : Nat} {es0 es : List MapEntry} {m : MA} (hm : μ r = some m) (ho : H.obs.get r = some (.map es0 c0)) {es' : Array MapEntry}
    (hlen : es.length = es'.size) (hv : ∀ (i : Nat) e e', es[i]? = some e → es'[i]? = some e' → VR μ e.key e'.key ∧ VR μ e.val e'.val ∧ e.born = e'.born)
    (hh : w'.heap = w.heap.setIfInBounds m.at_.block (.map es' c)) (hos : w'.os = w.os) (htp : w'.tape = w.tape) (hout : w'.output = w.output) :
    Stp base μ H w μ (H.putMap r es c) w' := by
  have hown : owner H r = some r := owner_map ho
  have hlow : (H.putMap r es c).low = min H.low r := rfl
  have how : ∀ j, owner (H.putMap r es c) j = owner H j := fun j => by
    have hg := putMap_get H r es c j
    by_cases e : r = j
    · subst e; rw [if_pos rfl] at hg; rw [owner_map hg, hown]
    · rw [if_neg e] at hg; exact owner_of hg
  have hB := R.blk_lt hm
  have hoth : ∀ k, k ≠ m.at_.block → w'.heap[k]? = w.heap[k]? := fun k hk => by rw [hh, Array.getElem?_setIfInBounds, if_neg (Ne.symm hk)]
  have hsz : w'.heap.size = w.heap.size := by rw [hh]; simp
  have hal : ∀ b : Blk, b.alive (H.putMap r es c) = b.alive H := fun b => rfl
  have ne : ∀ j mj, μ j = some mj → j ≠ r → mj.at_.block ≠ m.at_.block := fun j mj hj hne e => by
    have h1 := R.apart j r mj m hj hm e
    rw [hown] at h1
    unfold owner at h1
    split at h1
    · rename_i b hb
      split at h1
      · cases h1
      · rename_i hr
        simp at hr h1
        obtain ⟨x1, x2, x3, x4⟩ := R.wf.fam j b hb hr
        by_cases h0 : b.esz = 0
        · exact hne (by rw [← x3 h0, h1])
        · obtain ⟨b', hb', _⟩ := x4 h0
          rw [h1, ho] at hb'; cases hb'
    · cases h1; exact hne rfl
    · cases h1
  refine ⟨⟨⟨fun i o h => ?_, fun i b h hr => ?_, R.wf.gen⟩, by rw [hsz]; exact R.bd, fun i mi h => ?_, fun i mi b h hi => ?_, fun i mi es2 c2 h hi => ?_, fun i j mi mj h1 h2 hb => by rw [how, how]; exact R.apart i j mi mj h1 h2 hb⟩,
    .refl μ, (fun i mi h h0 => by rw [h] at h0; cases h0), Nat.le_refl _, fun i _ => how i, fun i hi hf => ?_, fun f _ _ => rfl, by rw [hlow]; omega, fun B hB hf => ?_, hos, htp, hout, by rw [hsz]; exact Nat.le_refl _⟩
  · rw [putMap_get] at h
    show i < H.n
    split at h
    · rename_i e; subst e; exact R.wf.lt _ _ ho
    · exact R.wf.lt i o h
  · rw [putMap_get] at h
    split at h
    · cases h
    · obtain ⟨x1, x2, x3, x4⟩ := R.wf.fam i b h hr
      refine ⟨x1, x2, x3, fun he => ?_⟩
      obtain ⟨b', hb', y⟩ := x4 he
      exact ⟨b', by rw [putMap_get, if_neg (fun e => by rw [← e, ho] at hb'; cases hb')]; exact hb', y⟩
  · rw [putMap_get]
    split
    · exact ⟨_, rfl⟩
    · exact R.has i mi h
  · rw [putMap_get] at hi
    split at hi
    · cases hi
    · rename_i e
      exact (R.row i mi b h hi).keep (.refl μ) (fun x => x) (hoth _ (ne i mi h (Ne.symm e)))
  · rw [putMap_get] at hi
    split at hi
    · rename_i e
      subst e
      cases hi
      rw [hm] at h; cases h
      exact ⟨(R.map r m es0 c0 hm ho).base, es', by rw [hh, Array.getElem?_setIfInBounds, if_pos rfl, if_pos hB], hlen, hv⟩
    · rename_i e
      exact (R.map i mi es2 c2 h hi).keep (.refl μ) (hoth _ (ne i mi h (Ne.symm e)))
  · rw [putMap_get, if_neg]
    intro e
    subst e
    have := hf r hown
    rw [hlow] at this
    omega
  · refine hoth B fun e => ?_
    have := hf r m hm e.symm r hown
    rw [hlow] at this
    omega
end
end Go.Proofs.YtmbofpmjckjceaaDoor.E
