/- Regions that draw their order: each order does what the order of the text does. No condition. -/
import Derived.Test.YtmbofpmjckjceaaDoorE11
namespace Go.Proofs.YtmbofpmjckjceaaDoor.E
open Go Go.RowKit
set_option linter.unusedVariables false
set_option linter.unusedSimpArgs false
/-! ### Who waits for whom -/
inductive Anc (ops : Array Oper) : Nat → Nat → Prop where
  | one {j : Nat} {o : Oper} {e : Edge} (h : ops[j]? = some o) (he : e ∈ o.after) (hb : Region.binds .any e = true) : Anc ops e.on j
  | more {i j : Nat} {o : Oper} {e : Edge} (h : ops[j]? = some o) (he : e ∈ o.after) (hb : Region.binds .any e = true) (t : Anc ops i e.on) : Anc ops i j
theorem maskOf_spec (acc : List Nat) (o : Oper) (i : Nat) (h : (maskOf acc o).testBit i = true) : ∃ e ∈ o.after, Region.binds .any e = true ∧ (i = e.on ∨ (acc.getD e.on 0).testBit i = true) := by
  unfold maskOf at h
  have key : ∀ (l : List Edge) (s : Nat), (l.foldl (fun s e => if Region.binds .any e then s ||| 2 ^ e.on ||| acc.getD e.on 0 else s) s).testBit i = true → s.testBit i = true ∨ ∃ e ∈ l, Region.binds .any e = true ∧ (i = e.on ∨ (acc.getD e.on 0).testBit i = true) := by
    intro l
    induction l with
    | nil => intro s h; exact .inl h
    | cons e l ih =>
      intro s h
      simp only [List.foldl_cons] at h
      rcases ih _ h with h1 | ⟨e', h1, h2⟩
      · split at h1
        · rename_i hb
          rw [Nat.testBit_or, Nat.testBit_or, Nat.testBit_two_pow] at h1
          simp only [Bool.or_eq_true, decide_eq_true_eq] at h1
          rcases h1 with (h1 | h1) | h1
          · exact .inl h1
          · exact .inr ⟨e, .head _, hb, .inl h1.symm⟩
          · exact .inr ⟨e, .head _, hb, .inr h1⟩
        · exact .inl h1
      · exact .inr ⟨e', .tail _ h1, h2⟩
  rcases key _ _ h with h | ⟨e, h1, h2⟩
  · simp at h
  · exact ⟨e, Array.mem_toList_iff.1 h1, h2⟩
theorem masks_spec (ops : Array Oper) : ∀ (rest pre : List Oper) (acc : List Nat), pre ++ rest = ops.toList → acc.length = pre.length → (∀ j, j < pre.length → ∀ i, (acc.getD j 0).testBit i = true → Anc ops i j) →
    ∀ j i, ((rest.foldl (fun acc o => acc ++ [maskOf acc o]) acc).getD j 0).testBit i = true → Anc ops i j
  | [], pre, acc, hp, hl, ha, j, i, h => by
    rcases Nat.lt_or_ge j pre.length with hj | hj
    · exact ha j hj i h
    · rw [List.foldl_nil, List.getD_eq_getElem?_getD, List.getElem?_eq_none (by omega)] at h; simp at h
  | o :: rest, pre, acc, hp, hl, ha, j, i, h => by
    refine masks_spec ops rest (pre ++ [o]) (acc ++ [maskOf acc o]) (by simp [hp]) (by simp [hl]) (fun j hj i hi => ?_) j i h
    rcases Nat.lt_or_ge j pre.length with hlt | hge
    · rw [List.getD_eq_getElem?_getD, List.getElem?_append_left (by omega), ← List.getD_eq_getElem?_getD] at hi
      exact ha j hlt i hi
    · have hje : j = pre.length := by simp at hj; omega
      rw [List.getD_eq_getElem?_getD, List.getElem?_append_right (by omega), show j - acc.length = 0 by omega] at hi
      simp only [List.getElem?_cons_zero, Option.getD_some] at hi
      have hop : ops[j]? = some o := by
        rw [← Array.getElem?_toList, ← hp, hje]
        simp
      obtain ⟨e, he, hb, hq⟩ := maskOf_spec acc o i hi
      rcases hq with rfl | hq
      · exact .one hop he hb
      · refine .more hop he hb ?_
        rcases Nat.lt_or_ge e.on pre.length with hlt' | hge'
        · exact ha _ hlt' i hq
        · rw [List.getD_eq_getElem?_getD, List.getElem?_eq_none (by omega)] at hq; simp at hq
theorem mask_anc {ops : Array Oper} {i j : Nat} (h : ((masks ops.toList).getD j 0).testBit i = true) : Anc ops i j :=
  masks_spec ops ops.toList [] [] rfl rfl (fun j hj => by simp at hj) j i h
/-- One writes what the other writes or looks at. -/
def conf (ops : Array Oper) (x y : Oper) : Bool :=
  (match x.dst with | some d => (looks ops y).contains d || y.dst == some d | none => false) || (match y.dst with | some d => (looks ops x).contains d | none => false)
def drawOk (ops : Array Oper) : Bool :=
  (ops.toList.zipIdx.all fun p => p.1.after.toList.all fun e => !Region.binds .any e || decide (e.on < p.2)) &&
  ((List.range ops.size).all fun j => (List.range j).all fun i => !conf ops (ops.getD i default) (ops.getD j default) || ((masks ops.toList).getD j 0).testBit i)
structure DrawOk (ops : Array Oper) : Prop where
  back : ∀ i j, Anc ops i j → i < j
  conf : ∀ (i j : Nat) x y, i < j → ops[i]? = some x → ops[j]? = some y → conf ops x y = true → Anc ops i j
theorem drawOk_spec {ops : Array Oper} (h : drawOk ops = true) : DrawOk ops := by
  unfold drawOk at h
  simp only [Bool.and_eq_true, List.all_eq_true] at h
  obtain ⟨h1, h2⟩ := h
  have edge : ∀ (j : Nat) o e, ops[j]? = some o → e ∈ o.after → Region.binds .any e = true → e.on < j := fun j o e hj he hb => by
    have hz : (o, j) ∈ ops.toList.zipIdx := by
      rw [List.mem_zipIdx_iff_getElem?]
      simpa using hj
    have := h1 _ hz e (Array.mem_toList_iff.2 he)
    simpa [hb] using this
  refine ⟨fun i j h => ?_, fun i j x y hij hx hy hc => ?_⟩
  · induction h with
    | one h he hb => exact edge _ _ _ h he hb
    | more h he hb _ ih => exact Nat.lt_trans ih (edge _ _ _ h he hb)
  · have hjs : j < ops.size := (Array.getElem?_eq_some_iff.1 hy).1
    have := h2 j (List.mem_range.2 hjs) i (List.mem_range.2 hij)
    rw [show ops.getD i default = x by simp [Array.getD_eq_getD_getElem?, hx], show ops.getD j default = y by simp [Array.getD_eq_getD_getElem?, hy], hc] at this
    simp at this
    exact mask_anc (by simpa [List.getD_eq_getElem?_getD] using this)
theorem barrier_spec {ops : Array Oper} {k : Nat} (h : barrierB ops.toList k = true) : ∀ (j : Nat) o, ops[j]? = some o → j = k ∨ inert o = true ∨ Anc ops j k ∨ Anc ops k j := by
  intro j o hj
  unfold barrierB at h
  rw [List.all_eq_true] at h
  have hjs : j < ops.size := (Array.getElem?_eq_some_iff.1 hj).1
  have := h j (List.mem_range.2 (by simpa using hjs))
  have hd : ops.toList.getD j default = o := by rw [List.getD_eq_getElem?_getD]; simp [hj]
  rw [hd] at this
  simp only [Bool.or_eq_true, beq_iff_eq] at this
  rcases this with ((h1 | h1) | h1) | h1
  · exact .inl h1
  · exact .inr (.inl h1)
  · exact .inr (.inr (.inl (mask_anc h1)))
  · exact .inr (.inr (.inr (mask_anc h1)))
/-! ### The states of the text's order -/
structure Run (E : Env) (call : Call) (ops : Array Oper) (Ts : Nat → Tr Value) (Hs H1s : Nat → Mem) : Prop where
  step : ∀ (k : Nat) o, ops[k]? = some o → stepOne E call ops o (Ts k) { Hs k with low := (Hs k).n } = some (Ts (k + 1), H1s k)
  quiet : ∀ k, k < ops.size → (Hs k).n ≤ (H1s k).low ∨ barrierB ops.toList k = true
  next : ∀ k, k < ops.size → Hs (k + 1) = { H1s k with low := min (Hs k).low (H1s k).low }
theorem run_of (E : Env) (call : Call) (ops : Array Oper) : ∀ (l : List Oper) (k : Nat) (T T' : Tr Value) (H H' : Mem), ops.toList.drop k = l → evDraw E call ops l k T H = some (T', H') → ∃ (Ts : Nat → Tr Value) (Hs H1s : Nat → Mem), Ts k = T ∧ Hs k = H ∧ Ts (k + l.length) = T' ∧ Hs (k + l.length) = H' ∧
    (∀ (j : Nat) o, k ≤ j → ops[j]? = some o → stepOne E call ops o (Ts j) { Hs j with low := (Hs j).n } = some (Ts (j + 1), H1s j)) ∧ (∀ j, k ≤ j → j < ops.size → (Hs j).n ≤ (H1s j).low ∨ barrierB ops.toList j = true) ∧
    (∀ j, k ≤ j → j < ops.size → Hs (j + 1) = { H1s j with low := min (Hs j).low (H1s j).low })
  | [], k, T, T', H, H', hl, h => by
    cases h
    have hk : ops.size ≤ k := by have := List.drop_eq_nil_iff.1 hl; simpa using this
    exact ⟨fun _ => T, fun _ => H, fun _ => H, rfl, rfl, rfl, rfl, (fun j o hj ho => by have := (Array.getElem?_eq_some_iff.1 ho).1; omega), (fun j hj hs => by omega), (fun j hj hs => by omega)⟩
  | o :: l, k, T, T', H, H', hl, h => by
    have hk : k < ops.size := by
      rcases Nat.lt_or_ge k ops.size with h | h
      · exact h
      · rw [List.drop_eq_nil_of_le (by simpa using h)] at hl; cases hl
    have hok : ops[k]? = some o := by
      have : (ops.toList.drop k)[0]? = some o := by rw [hl]; rfl
      rw [List.getElem?_drop] at this
      simpa using this
    have hl' : ops.toList.drop (k + 1) = l := by rw [← List.drop_drop, hl]; rfl
    unfold evDraw at h
    split at h
    · rename_i T1 H1 h1
      split at h
      · rename_i hq
        obtain ⟨Ts, Hs, H1s, a1, a2, a3, a4, a5, a6, a7⟩ := run_of E call ops l (k + 1) _ _ _ _ hl' h
        refine ⟨fun j => if j = k then T else Ts j, fun j => if j = k then H else Hs j, fun j => if j = k then H1 else H1s j, by simp, by simp, ?_, ?_, fun j o' hj ho' => ?_, fun j hj hs => ?_, fun j hj hs => ?_⟩
        · simp only [List.length_cons]; rw [if_neg (by omega), ← a3]; congr 1; omega
        · simp only [List.length_cons]; rw [if_neg (by omega), ← a4]; congr 1; omega
        · by_cases e : j = k
          · subst e
            rw [hok] at ho'; cases ho'
            simp only [if_true]
            rw [if_neg (by omega), a1]
            exact h1
          · simp only [e, if_false]
            rw [if_neg (by omega)]
            exact a5 j o' (by omega) ho'
        · by_cases e : j = k
          · subst e; simpa using hq
          · simp only [e, if_false]; exact a6 j (by omega) hs
        · by_cases e : j = k
          · subst e; simp only [if_true]; rw [if_neg (by omega), a2]
          · simp only [e, if_false]; rw [if_neg (by omega)]; exact a7 j (by omega) hs
      · cases h
    · cases h
section
variable {base : Nat} {μ μ1 : Mp} {H H' H1 : Mem} {w w' : World} {P : Program}
/-- The rows below N. -/
def cut (μ : Mp) (N : Nat) : Mp := fun i => if i < N then μ i else none
theorem cut_some {N i : Nat} {m : MA} (h : cut μ N i = some m) : i < N ∧ μ i = some m := by
  unfold cut at h
  split at h
  · rename_i hi; exact ⟨hi, h⟩
  · cases h
theorem cut_of {N i : Nat} {m : MA} (hi : i < N) (h : μ i = some m) : cut μ N i = some m := by unfold cut; rw [if_pos hi]; exact h
theorem cut_all {N : Nat} (h : ∀ i m, μ i = some m → i < N) : cut μ N = μ := by
  funext i
  unfold cut
  split
  · rfl
  · rename_i hi
    cases hm : μ i with
    | none => rfl
    | some m => exact absurd (h i m hm) hi
theorem Rl.agree (R : Rl base μ H w) (W : WF H') (hn : H.n ≤ H'.n) (ho : ∀ i, i < H.n → H'.obs.get i = H.obs.get i) (hg : ∀ f, f < H.n → H'.gens.get f = H.gens.get f) : Rl base μ H' w := by
  have how : ∀ i m, μ i = some m → owner H' i = owner H i := fun i m h => owner_of (ho i (R.lt h))
  refine ⟨W, R.bd, fun i m h => ?_, fun i m b h hb => ?_, fun i m es c h hb => ?_, fun i j mi mj h1 h2 hb => ?_⟩
  · rw [ho i (R.lt h)]; exact R.has i m h
  · have hb' := hb
    rw [ho i (R.lt h)] at hb'
    refine (R.row i m b h hb').keep (.refl μ) (fun ha => ?_) rfl
    unfold Blk.alive at ha ⊢
    cases hr : b.ro with
    | true => rfl
    | false =>
      rw [hr] at ha
      have hf := (R.wf.fam i b hb' hr).1
      unfold Mem.gen at ha ⊢
      rw [hg b.fam (by have := R.lt h; omega)] at ha
      exact ha
  · rw [ho i (R.lt h)] at hb
    exact R.map i m es c h hb
  · rw [how i mi h1, how j mj h2]; exact R.apart i j mi mj h1 h2 hb
theorem Rl.world (R : Rl base μ H w) (hs : w.heap.size ≤ w'.heap.size) (hh : ∀ B, B < w.heap.size → w'.heap[B]? = w.heap[B]?) : Rl base μ H w' :=
  ⟨R.wf, Nat.le_trans R.bd hs, R.has, fun i m b h hb => (R.row i m b h hb).keep (.refl μ) (fun x => x) (hh _ (R.blk_lt h)), fun i m es c h hb => (R.map i m es c h hb).keep (.refl μ) (hh _ (R.blk_lt h)), R.apart⟩
theorem Rl.relow (R : Rl base μ H w) (l : Nat) : Rl base μ { H with low := l } w :=
  R.agree (R.wf.low l) (Nat.le_refl _) (fun _ _ => rfl) (fun _ _ => rfl)
def mix (μ μ1 : Mp) (N N' : Nat) : Mp := fun i => if i < N then μ i else if i < N' then μ1 i else μ i
/-- What an operation of the middle has made is laid beside the rest. -/
theorem Rl.merge {N N' M : Nat} (RA : Rl base (cut μ M) H w) (RB : Rl base μ1 H1 w) (hN : N ≤ N') (hM : N' ≤ M) (h1n : H1.n = N') (ho : ∀ i, i < N' → H.obs.get i = H1.obs.get i) (hg : ∀ f, f < N' → H.gens.get f = H1.gens.get f)
    (hlow : ∀ i m, μ1 i = some m → i < N → μ i = some m) (hext : ∀ i m, μ i = some m → i < N → μ1 i = some m) (hfree : ∀ i, N ≤ i → i < N' → μ i = none)
    (hblk : ∀ i m, μ1 i = some m → N ≤ i → ∀ j mj, μ j = some mj → N' ≤ j → j < M → mj.at_.block = m.at_.block → owner H j = owner H1 i) : Rl base (cut (mix μ μ1 N N') M) H w := by
  have e1 : Ext μ1 (cut (mix μ μ1 N N') M) := fun i m h => by
    have hi : i < N' := by rw [← h1n]; exact RB.lt h
    refine cut_of (by omega) ?_
    unfold mix
    by_cases hl : i < N
    · rw [if_pos hl]; exact hlow i m h hl
    · rw [if_neg hl, if_pos hi]; exact h
  have e2 : Ext (cut μ M) (cut (mix μ μ1 N N') M) := fun i m h => by
    obtain ⟨hi, hm⟩ := cut_some h
    refine cut_of hi ?_
    unfold mix
    by_cases hl : i < N
    · rw [if_pos hl]; exact hm
    · rw [if_neg hl]
      by_cases hl' : i < N'
      · rw [hfree i (by omega) hl'] at hm; cases hm
      · rw [if_neg hl']; exact hm
  -- each row is one of the one, or of the other
  have parts : ∀ i m, cut (mix μ μ1 N N') M i = some m → (i < N' ∧ μ1 i = some m) ∨ (N' ≤ i ∧ i < M ∧ μ i = some m) := fun i m h => by
    obtain ⟨hi, hm⟩ := cut_some h
    unfold mix at hm
    by_cases hl : i < N
    · rw [if_pos hl] at hm; exact .inl ⟨by omega, hext i m hm hl⟩
    · rw [if_neg hl] at hm
      by_cases hl' : i < N'
      · rw [if_pos hl'] at hm; exact .inl ⟨hl', hm⟩
      · rw [if_neg hl'] at hm; exact .inr ⟨by omega, hi, hm⟩
  have ow : ∀ i, i < N' → owner H i = owner H1 i := fun i hi => owner_of (ho i hi)
  refine ⟨RA.wf, RA.bd, fun i m h => ?_, fun i m b h hb => ?_, fun i m es c h hb => ?_, fun i j mi mj h1 h2 hb => ?_⟩
  · rcases parts i m h with ⟨hi, hm⟩ | ⟨h1, h2, hm⟩
    · rw [ho i hi]; exact RB.has i m hm
    · exact RA.has i m (cut_of h2 hm)
  · rcases parts i m h with ⟨hi, hm⟩ | ⟨h1, h2, hm⟩
    · have hb' := hb
      rw [ho i hi] at hb'
      refine (RB.row i m b hm hb').keep e1 (fun ha => ?_) rfl
      unfold Blk.alive at ha ⊢
      cases hr : b.ro with
      | true => rfl
      | false =>
        rw [hr] at ha
        have hf := (RB.wf.fam i b hb' hr).1
        unfold Mem.gen at ha ⊢
        rw [hg b.fam (by omega)] at ha
        exact ha
    · exact (RA.row i m b (cut_of h2 hm) hb).keep e2 (fun x => x) rfl
  · rcases parts i m h with ⟨hi, hm⟩ | ⟨h1, h2, hm⟩
    · rw [ho i hi] at hb
      exact (RB.map i m es c hm hb).keep e1 rfl
    · exact (RA.map i m es c (cut_of h2 hm) hb).keep e2 rfl
  · rcases parts i mi h1 with ⟨hi, hmi⟩ | ⟨a1, a2, hmi⟩ <;> rcases parts j mj h2 with ⟨hj, hmj⟩ | ⟨b1, b2, hmj⟩
    · rw [ow i hi, ow j hj]; exact RB.apart i j mi mj hmi hmj hb
    · by_cases hl : i < N
      · exact RA.apart i j mi mj (cut_of (by omega) (hlow i mi hmi hl)) (cut_of b2 hmj) hb
      · rw [ow i hi]; exact (hblk i mi hmi (by omega) j mj hmj b1 b2 hb.symm).symm
    · by_cases hl : j < N
      · exact RA.apart i j mi mj (cut_of a2 hmi) (cut_of (by omega) (hlow j mj hmj hl)) hb
      · rw [ow j hj]; exact hblk j mj hmj (by omega) i mi hmi a1 a2 hb
    · exact RA.apart i j mi mj (cut_of a2 hmi) (cut_of b2 hmj) hb
end
end Go.Proofs.YtmbofpmjckjceaaDoor.E
