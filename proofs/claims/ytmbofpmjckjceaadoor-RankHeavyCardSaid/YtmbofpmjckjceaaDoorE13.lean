/- Regions that draw their order: the proof. No condition. -/
import Derived.Test.YtmbofpmjckjceaaDoorE12
namespace Go.Proofs.YtmbofpmjckjceaaDoor.E
open Go Go.RowKit
set_option linter.unusedVariables false
set_option linter.unusedSimpArgs false
section
variable {E : Env} {call : Call} {ops : Array Oper} {Ts : Nat → Tr Value} {Hs H1s : Nat → Mem} {base nt : Nat} {μ0 : Mp} {w0 : World}
def isBar (ops : Array Oper) (Hs H1s : Nat → Mem) (k : Nat) : Prop := ∃ o, ops[k]? = some o ∧ inert o = false ∧ ¬ ((Hs k).n ≤ (H1s k).low)
def wrs (ops : Array Oper) (k : Nat) (t : Tmp) : Prop := ∃ o, ops[k]? = some o ∧ o.dst = some t
theorem Run.a (r : Run E call ops Ts Hs H1s) (ha : CallA call) {k : Nat} (hk : k < ops.size) (W : WF (Hs k)) : AStp { Hs k with low := (Hs k).n } (H1s k) ∧ AStp (Hs k) (Hs (k + 1)) := by
  have h := r.step k _ (Array.getElem?_eq_getElem hk)
  have S := (stepOne_a E ha h (W.low _)).1
  exact ⟨S, by rw [r.next k hk]; exact S.relow⟩
theorem Run.wf (r : Run E call ops Ts Hs H1s) (ha : CallA call) (W : WF (Hs 0)) : ∀ k, k ≤ ops.size → WF (Hs k)
  | 0, _ => W
  | k + 1, hk => by
    have W' := Run.wf r ha W k (by omega)
    exact (r.a ha (by omega) W').2.wf W'
theorem Run.mono (r : Run E call ops Ts Hs H1s) (ha : CallA call) (W : WF (Hs 0)) (k : Nat) : ∀ d, k + d ≤ ops.size → AStp (Hs k) (Hs (k + d))
  | 0, _ => .refl _
  | d + 1, hk => (Run.mono r ha W k d (by omega)).trans (r.wf ha W k (by omega)) (r.a ha (k := k + d) (by omega) (r.wf ha W _ (by omega))).2
theorem Run.le (r : Run E call ops Ts Hs H1s) (ha : CallA call) (W : WF (Hs 0)) {k k' : Nat} (h : k ≤ k') (hk : k' ≤ ops.size) : AStp (Hs k) (Hs k') := by
  obtain ⟨d, rfl⟩ : ∃ d, k' = k + d := ⟨k' - k, by omega⟩
  exact r.mono ha W k d hk
theorem Run.agree1 (r : Run E call ops Ts Hs H1s) (ha : CallA call) (W : WF (Hs 0)) (hok : ops.toList.all (okOp nt) = true) {k : Nat} (hk : k < ops.size) (hb : ¬ isBar ops Hs H1s k) :
    (∀ i, i < (Hs k).n → (Hs (k + 1)).obs.get i = (Hs k).obs.get i) ∧ ∀ f, f < (Hs k).n → (Hs (k + 1)).gens.get f = (Hs k).gens.get f := by
  have hko := Array.getElem?_eq_getElem hk
  have h := r.step k _ hko
  by_cases hi : inert ops[k] = true
  · have ho := List.all_eq_true.1 hok ops[k] (Array.mem_toList_iff.2 (Array.getElem_mem hk))
    simp only [okOp, Bool.and_eq_true] at ho
    have hH : H1s k = { Hs k with low := (Hs k).n } := (stepOne_i E hi ho.2 h).1
    rw [r.next k hk, hH]
    exact ⟨fun _ _ => rfl, fun _ _ => rfl⟩
  · have hq : (Hs k).n ≤ (H1s k).low := Classical.byContradiction fun hc => hb ⟨_, hko, by simpa using hi, hc⟩
    have S := (r.a ha hk (r.wf ha W k (by omega))).1
    have W' := r.wf ha W k (by omega)
    rw [r.next k hk]
    exact ⟨fun i hi => S.obs i hi fun f hf => by have := (owner_lt W' (i := i) (f := f) hf).1; have : i < (Hs k).n := hi; omega, fun f hf => S.gens f hf (by have : f < (Hs k).n := hf; omega)⟩
theorem Run.agree (r : Run E call ops Ts Hs H1s) (ha : CallA call) (W : WF (Hs 0)) (hok : ops.toList.all (okOp nt) = true) (k : Nat) : ∀ d, k + d ≤ ops.size → (∀ b, k ≤ b → b < k + d → ¬ isBar ops Hs H1s b) →
    (∀ i, i < (Hs k).n → (Hs (k + d)).obs.get i = (Hs k).obs.get i) ∧ ∀ f, f < (Hs k).n → (Hs (k + d)).gens.get f = (Hs k).gens.get f
  | 0, _, _ => ⟨fun _ _ => rfl, fun _ _ => rfl⟩
  | d + 1, hk, hb => by
    obtain ⟨h1, h2⟩ := Run.agree r ha W hok k d (by omega) (fun b x y => hb b x (by omega))
    obtain ⟨g1, g2⟩ := r.agree1 ha W hok (k := k + d) (by omega) (hb _ (by omega) (by omega))
    have hn := (r.mono ha W k d (by omega)).n
    exact ⟨fun i hi => (g1 i (by omega)).trans (h1 i hi), fun f hf => (g2 f (by omega)).trans (h2 f hf)⟩
theorem Run.ts (r : Run E call ops Ts Hs H1s) (ha : CallA call) (W : WF (Hs 0)) (k : Nat) (t : Tmp) : ∀ d, k + d ≤ ops.size → (∀ i, k ≤ i → i < k + d → ¬ wrs ops i t) → (Ts (k + d)).get t = (Ts k).get t
  | 0, _, _ => rfl
  | d + 1, hk, hb => by
    have ih := Run.ts r ha W k t d (by omega) (fun i x y => hb i x (by omega))
    have hlt : k + d < ops.size := by omega
    have hok := Array.getElem?_eq_getElem hlt
    obtain ⟨v, hv⟩ := (stepOne_a E ha (r.step (k + d) _ hok) ((r.wf ha W _ (by omega)).low _)).2
    rw [← ih]
    show (Ts (k + d + 1)).get t = _
    rw [hv]
    have hn := hb (k + d) (by omega) (by omega)
    cases hd : (ops[k + d]).dst with
    | none => rfl
    | some d' =>
      simp only [putT]
      exact Tr.get_set_ne _ _ fun e => hn ⟨_, hok, by rw [hd, e]⟩
/-- What holds once the operations that are listed have been carried out. -/
structure Inv (ops : Array Oper) (Ts : Nat → Tr Value) (Hs H1s : Nat → Mem) (base nt : Nat) (ds : List Deferred) (μ0 : Mp) (w0 : World) (listed : Array Bool) (a : Act) (w : World) (μ : Mp) : Prop where
  lsz : listed.size = ops.size
  asz : a.tmps.size = nt
  defers : a.defers = ds
  dc : ∀ (j : Nat) o e, listed.getD j false = true → ops[j]? = some o → e ∈ o.after → Region.binds .any e = true → listed.getD e.on false = true
  ext : Ext μ0 μ
  ids : ∀ i m, μ i = some m → i < (Hs ops.size).n ∧ ∀ k, k < ops.size → (Hs k).n ≤ i → i < (Hs (k + 1)).n → listed.getD k false = true
  mem : ∀ k, k ≤ ops.size → (∀ b, b < ops.size → isBar ops Hs H1s b → (b < k ↔ listed.getD b false = true)) → Rl base (cut μ (Hs k).n) (Hs k) w
  tmp : ∀ t k, k ≤ ops.size → (∀ i, i < k → wrs ops i t → listed.getD i false = true) → (∀ i, k ≤ i → wrs ops i t → listed.getD i false = false) → VR (cut μ (Hs k).n) (((Ts k).get t).getD undef) (a.tmps.getD t undef)
  new : ∀ i m, μ i = some m → μ0 i = none → (Hs 0).n ≤ i ∧ (w0.heap.size ≤ m.at_.block ∨ ∃ j mj, μ0 j = some mj ∧ mj.at_.block = m.at_.block ∧ owner (Hs 0) j = owner (Hs ops.size) i)
  foot : ∀ B, B < w0.heap.size → (∀ i m, μ0 i = some m → m.at_.block = B → ∀ f, owner (Hs 0) i = some f → f < (Hs ops.size).low) → w.heap[B]? = w0.heap[B]?
  os : w.os = w0.os
  tape : w.tape = w0.tape
  out : w.output = w0.output
  size : w0.heap.size ≤ w.heap.size
theorem setD {listed : Array Bool} {k i : Nat} (h : k < listed.size) : (listed.setIfInBounds k true).getD i false = if i = k then true else listed.getD i false := by
  simp only [Array.getD_eq_getD_getElem?, Array.getElem?_setIfInBounds]
  by_cases e : k = i
  · subst e; simp [h]
  · rw [if_neg e, if_neg (Ne.symm e)]
variable {ds : List Deferred} {listed : Array Bool} {a : Act} {w : World} {μ : Mp}
theorem Inv.anc (I : Inv ops Ts Hs H1s base nt ds μ0 w0 listed a w μ) {i j : Nat} (h : Anc ops i j) (hj : listed.getD j false = true) : listed.getD i false = true := by
  induction h with
  | one h he hb => exact I.dc _ _ _ hj h he hb
  | more h he hb _ ih => exact ih (I.dc _ _ _ hj h he hb)
/-- The temporaries, once one more has been carried out. -/
theorem Inv.tmp_step (I : Inv ops Ts Hs H1s base nt ds μ0 w0 listed a w μ) (r : Run E call ops Ts Hs H1s) (ha : CallA call) (W : WF (Hs 0)) (hD : DrawOk ops) {k : Nat} {o : Oper} (hk : ops[k]? = some o) (hdst : ∀ t, o.dst = some t → t < nt)
    (hun : listed.getD k false = false) {μ' : Mp} {v v' : Value} (hv : Ts (k + 1) = putT (Ts k) o.dst v) (he : ∀ N, Ext (cut μ N) (cut μ' N)) (hvr : ∀ k', k < k' → k' ≤ ops.size → VR (cut μ' (Hs k').n) v v') :
    ∀ t k', k' ≤ ops.size → (∀ i, i < k' → wrs ops i t → (listed.setIfInBounds k true).getD i false = true) → (∀ i, k' ≤ i → wrs ops i t → (listed.setIfInBounds k true).getD i false = false) →
      VR (cut μ' (Hs k').n) (((Ts k').get t).getD undef) ((a.put o.dst v').tmps.getD t undef) := by
  intro t k' hk' h1 h2
  have hks : k < ops.size := (Array.getElem?_eq_some_iff.1 hk).1
  have hset : ∀ i, (listed.setIfInBounds k true).getD i false = if i = k then true else listed.getD i false := fun i => setD (by rw [I.lsz]; exact hks)
  by_cases hw : o.dst = some t
  · have hkk : k < k' := by
      rcases Nat.lt_or_ge k k' with h | h
      · exact h
      · have := h2 k h ⟨o, hk, hw⟩
        rw [hset, if_pos rfl] at this
        cases this
    -- nobody else writes it in between
    have hno : ∀ i, k + 1 ≤ i → i < k' → ¬ wrs ops i t := fun i hi hi' hwr => by
      have hd := h1 i hi' hwr
      rw [hset, if_neg (by omega)] at hd
      obtain ⟨oi, hoi, hdi⟩ := hwr
      have hc : conf ops o oi = true := by simp [conf, hw, hdi]
      have := I.anc (hD.conf k i o oi (by omega) hk hoi hc) hd
      rw [hun] at this
      cases this
    obtain ⟨d, rfl⟩ : ∃ d, k' = k + 1 + d := ⟨k' - (k + 1), by omega⟩
    rw [r.ts ha W (k + 1) t d hk' hno, hv, hw]
    simp only [putT, Tr.get_set_same, Option.getD_some, Act.put]
    have hlt : t < a.tmps.size := by rw [I.asz]; exact hdst t hw
    have : (a.tmps.setIfInBounds t v').getD t undef = v' := by simp [Array.getD_eq_getD_getElem?, hlt]
    rw [this]
    exact hvr _ hkk hk'
  · have hold := I.tmp t k' hk' (fun i hi hwr => by
        have := h1 i hi hwr
        rw [hset] at this
        split at this
        · rename_i e
          subst e
          obtain ⟨o', ho', hd'⟩ := hwr
          rw [hk] at ho'; cases ho'
          exact absurd hd' hw
        · exact this) (fun i hi hwr => by
        have := h2 i hi hwr
        rw [hset] at this
        split at this
        · cases this
        · exact this)
    have e2 : (a.put o.dst v').tmps.getD t undef = a.tmps.getD t undef := by
      cases hd : o.dst with
      | none => rfl
      | some d =>
        have hne : d ≠ t := fun e => hw (by rw [hd, e])
        simp [Act.put, Array.getD_eq_getD_getElem?, Array.getElem?_setIfInBounds, hne]
    rw [e2]
    exact hold.mono (he _)
theorem put_size (a : Act) (d : Option Tmp) (v : Value) : (a.put d v).tmps.size = a.tmps.size := by cases d <;> simp [Act.put]
theorem put_defers (a : Act) (d : Option Tmp) (v : Value) : (a.put d v).defers = a.defers := by cases d <;> rfl
theorem Inv.step (hE : EnvOk E) (hc : CallC E.P base call) (ha : CallA call) (r : Run E call ops Ts Hs H1s) (R0 : Rl base μ0 (Hs 0) w0) (W : WF (Hs 0)) (hD : DrawOk ops) (hok : ops.toList.all (okOp nt) = true) (I : Inv ops Ts Hs H1s base nt ds μ0 w0 listed a w μ)
    {k : Nat} (hr : k ∈ Region.ready .any ops listed) (Q : Exit → Act → World → Prop) :
    wpOp E.P ops Q k (fun a' w' => ∃ μ', Inv ops Ts Hs H1s base nt ds μ0 w0 (listed.setIfInBounds k true) a' w' μ') a w := by
  obtain ⟨hun0, o, hk, hpre⟩ := mem_ready.1 hr
  have hks : k < ops.size := (Array.getElem?_eq_some_iff.1 hk).1
  have hun : listed.getD k false = false := by
    have hl : k < listed.size := by rw [I.lsz]; exact hks
    simp only [Array.getD_eq_getD_getElem?, Array.getElem?_eq_getElem hl, Option.getD_some] at hun0 ⊢
    exact hun0
  have hset : ∀ i, (listed.setIfInBounds k true).getD i false = if i = k then true else listed.getD i false := fun i => setD (by rw [I.lsz]; exact hks)
  have hoks := List.all_eq_true.1 hok o (Array.mem_toList_iff.2 (Array.mem_of_getElem? hk))
  simp only [okOp, Bool.and_eq_true] at hoks
  obtain ⟨hd0, ho⟩ := hoks
  have hdst : ∀ t, o.dst = some t → t < nt := fun t ht => by rw [ht] at hd0; simpa using hd0
  have hdsta : ∀ t, o.dst = some t → t < a.tmps.size := fun t ht => by rw [I.asz]; exact hdst t ht
  -- what it waits for has been done; what waits for it has not
  have ancD : ∀ i, Anc ops i k → listed.getD i false = true := fun i h => by
    cases h with
    | one h he hb => rw [hk] at h; cases h; exact hpre _ he hb
    | more h he hb t => rw [hk] at h; cases h; exact I.anc t (hpre _ he hb)
  have notD : ∀ j, Anc ops k j → listed.getD j false = false := fun j h => by
    cases hj : listed.getD j false with
    | false => rfl
    | true => have := I.anc h hj; rw [hun] at this; cases this
  have hlook : ∀ t, t ∈ looks ops o → VR (cut μ (Hs k).n) (((Ts k).get t).getD undef) (a.tmps.getD t undef) := fun t ht => by
    refine I.tmp t k (by omega) (fun i hi hw => ?_) (fun i hi hw => ?_)
    · obtain ⟨oi, hoi, hdi⟩ := hw
      exact ancD i (hD.conf i k oi o hi hoi hk (by simp [conf, hdi, ht]))
    · obtain ⟨oi, hoi, hdi⟩ := hw
      rcases Nat.lt_or_ge k i with h | h
      · exact notD i (hD.conf k i o oi h hk hoi (by simp [conf, hdi, ht]))
      · obtain rfl : i = k := by omega
        exact hun
  have dc' : ∀ (j : Nat) o e, (listed.setIfInBounds k true).getD j false = true → ops[j]? = some o → e ∈ o.after → Region.binds .any e = true → (listed.setIfInBounds k true).getD e.on false = true := fun j oj e hj hoj he hb => by
    rw [hset] at hj ⊢
    split
    · rfl
    · split at hj
      · rename_i e1; subst e1; rw [hk] at hoj; cases hoj; exact hpre e he hb
      · exact I.dc j oj e hj hoj he hb
  have idsMono : ∀ i m, μ i = some m → i < (Hs ops.size).n ∧ ∀ q, q < ops.size → (Hs q).n ≤ i → i < (Hs (q + 1)).n → (listed.setIfInBounds k true).getD q false = true := fun i m h => by
    obtain ⟨x, y⟩ := I.ids i m h
    exact ⟨x, fun q hq h1 h2 => by rw [hset]; split; · rfl
                                   · exact y q hq h1 h2⟩
  have hstep := r.step k o hk
  have nk : (Hs (k + 1)).n = (H1s k).n := by rw [r.next k hks]
  have Wk := r.wf ha W k (by omega)
  have goal : ∀ {K : Act → World → Prop}, (if Region.wanted o (yielded ops a.tmps) = true then o.wp E.P a w K Q else K (a.put o.dst undef) w) → wpOp E.P ops Q k K a w := fun {K} h => by
    unfold wpOp
    simp only [hk]
    split at h
    · rename_i hw; rw [if_pos hw]; exact .inl h
    · rename_i hw; rw [if_neg hw]; exact h
  apply goal
  by_cases hin : inert o = true
  · -- it looks at no memory
    obtain ⟨hH, v, hv, hst⟩ := stepOne_i E hin ho hstep
    have hnb : ¬ isBar ops Hs H1s k := fun ⟨o', h1, h2, _⟩ => by rw [hk] at h1; cases h1; rw [hin] at h2; cases h2
    refine hst (cut μ (Hs k).n) w a _ Q hlook fun v' hvr => ⟨μ, by simpa using I.lsz, by rw [put_size]; exact I.asz, by rw [put_defers]; exact I.defers, dc', I.ext, idsMono, fun k' hk' hcut => ?_, ?_, I.new, I.foot, I.os, I.tape, I.out, I.size⟩
    · refine I.mem k' hk' fun b hb hbar => ?_
      have := hcut b hb hbar
      rw [hset] at this
      split at this
      · rename_i e; subst e; exact absurd hbar hnb
      · exact this
    · refine I.tmp_step r ha W hD hk hdst hun hv (fun N => .refl _) fun k' h1 h2 => hvr.mono fun i m h => ?_
      obtain ⟨hi, hm⟩ := cut_some h
      have := (r.le ha W (Nat.le_of_lt h1) h2).n
      exact cut_of (by omega) hm
  · have hin : inert o = false := by simpa using hin
    obtain ⟨v, hv, hst⟩ := stepOne_c E hE hc ho hstep
    -- it is ordered against each barrier
    have hcutk : ∀ b, b < ops.size → isBar ops Hs H1s b → (b < k ↔ listed.getD b false = true) := fun b hb ⟨ob, hob, hib, hqb⟩ => by
      by_cases hbk : b = k
      · subst hbk; rw [hun]; simp
      · have hbar := (r.quiet b hb).resolve_left hqb
        rcases barrier_spec hbar k o hk with h | h | h | h
        · omega
        · rw [hin] at h; cases h
        · have := hD.back _ _ h; rw [notD b h]; simp; omega
        · have := hD.back _ _ h; rw [ancD b h]; simp; omega
    have Rk := I.mem k (by omega) hcutk
    have Rk' := Rk.relow (Hs k).n
    refine hst (cut μ (Hs k).n) w a _ Q Rk' hlook fun μ1 v' w' S hvr => ?_
    have SA := (r.a ha hks Wk).1
    have nle : (Hs k).n ≤ (H1s k).n := SA.n
    have R1 : Rl base μ1 (Hs (k + 1)) w' := by rw [r.next k hks]; exact S.rl.relow _
    have hl1 : ∀ i m, μ1 i = some m → i < (Hs (k + 1)).n := fun i m h => R1.lt h
    have low1 : ∀ i m, μ1 i = some m → i < (Hs k).n → μ i = some m := fun i m h hi => by
      cases hc : cut μ (Hs k).n i with
      | none => have := (S.new i m h hc).1; simp at this; omega
      | some m2 =>
        have := S.ext i m2 hc
        rw [h] at this; cases this
        exact (cut_some hc).2
    have ext1 : ∀ i m, μ i = some m → i < (Hs k).n → μ1 i = some m := fun i m h hi => S.ext i m (cut_of hi h)
    have ownk : ∀ i, i < (Hs k).n → owner (H1s k) i = owner (Hs k) i := fun i hi => SA.own (Wk.low _) i hi
    have R1n := nk
    -- the rows, old and new
    have hsub : Ext μ (mix μ μ1 (Hs k).n (Hs (k + 1)).n) := fun i m h => by
      unfold mix
      by_cases hi : i < (Hs k).n
      · rw [if_pos hi]; exact h
      · rw [if_neg hi]
        by_cases hi' : i < (Hs (k + 1)).n
        · have := (I.ids i m h).2 k hks (by omega) hi'; rw [hun] at this; cases this
        · rw [if_neg hi']; exact h
    have hfree : ∀ i, (Hs k).n ≤ i → i < (Hs (k + 1)).n → μ i = none := fun i h1 h2 => by
      cases hm : μ i with
      | none => rfl
      | some m => have := (I.ids i m hm).2 k hks h1 h2; rw [hun] at this; cases this
    have hsub1 : ∀ N, (Hs (k + 1)).n ≤ N → Ext μ1 (cut (mix μ μ1 (Hs k).n (Hs (k + 1)).n) N) := fun N hN i m h => by
      have hi := hl1 i m h
      refine cut_of (by omega) ?_
      unfold mix
      by_cases hl : i < (Hs k).n
      · rw [if_pos hl]; exact low1 i m h hl
      · rw [if_neg hl, if_pos hi]; exact h
    have parts : ∀ i m, mix μ μ1 (Hs k).n (Hs (k + 1)).n i = some m → μ i = some m ∨ ((Hs k).n ≤ i ∧ i < (Hs (k + 1)).n ∧ μ1 i = some m) := fun i m h => by
      unfold mix at h
      by_cases hl : i < (Hs k).n
      · rw [if_pos hl] at h; exact .inl h
      · rw [if_neg hl] at h
        by_cases hl' : i < (Hs (k + 1)).n
        · rw [if_pos hl'] at h; exact .inr ⟨by omega, hl', h⟩
        · rw [if_neg hl'] at h; exact .inl h
    have nle' : (Hs k).n ≤ (Hs (k + 1)).n := by rw [nk]; exact nle
    have lowk : (Hs ops.size).low ≤ (H1s k).low := by
      have h1 := (r.le ha W (show k + 1 ≤ ops.size by omega) (Nat.le_refl _)).low
      rw [r.next k hks] at h1
      simp at h1; omega
    have own0 : ∀ i, i < (Hs 0).n → owner (Hs k) i = owner (Hs 0) i := fun i hi => (r.le ha W (Nat.zero_le k) (by omega)).own W i hi
    have ownn : ∀ i, i < (Hs k).n → owner (Hs ops.size) i = owner (Hs k) i := fun i hi => (r.le ha W (show k ≤ ops.size by omega) (Nat.le_refl _)).own Wk i hi
    have ownn1 : ∀ i, i < (Hs (k + 1)).n → owner (Hs ops.size) i = owner (H1s k) i := fun i hi => by
      rw [(r.le ha W (show k + 1 ≤ ops.size by omega) (Nat.le_refl _)).own (r.wf ha W _ (by omega)) i hi, r.next k hks]
      rfl
    have memk : ∀ k', k' ≤ ops.size → (∀ b, b < ops.size → isBar ops Hs H1s b → (b < k' ↔ (listed.setIfInBounds k true).getD b false = true)) → Rl base (cut (mix μ μ1 (Hs k).n (Hs (k + 1)).n) (Hs k').n) (Hs k') w' := by
      intro k' hk' hcut
      by_cases hbar : isBar ops Hs H1s k
      · -- a barrier
        have hkk : k < k' := by have := hcut k hks hbar; rw [hset, if_pos rfl] at this; exact this.2 rfl
        obtain ⟨_, hq0, hq1, hq2⟩ := hbar
        have hbb := (r.quiet k hks).resolve_left hq2
        have hnb : ∀ b, k + 1 ≤ b → b < k' → ¬ isBar ops Hs H1s b := fun b h1 h2 hb => by
          have h3 := (hcut b (by omega) hb).1 h2
          rw [hset, if_neg (by omega)] at h3
          have := (hcutk b (by omega) hb).2 h3
          omega
        -- nothing is mapped from here on
        have hno : ∀ i m, μ i = some m → i < (Hs k).n := fun i m h => by
          obtain ⟨x, y⟩ := I.ids i m h
          rcases Nat.lt_or_ge i (Hs k).n with hlt | hge
          · exact hlt
          · exfalso
            -- which operation has made it?
            have find : ∀ d, k + d ≤ ops.size → i < (Hs (k + d)).n → ∃ q, k ≤ q ∧ q < ops.size ∧ (Hs q).n ≤ i ∧ i < (Hs (q + 1)).n := by
              intro d
              induction d with
              | zero => intro _ h; exact absurd h (by simpa using hge)
              | succ d ih =>
                intro hd h
                rcases Nat.lt_or_ge i (Hs (k + d)).n with hl | hg
                · exact ih (by omega) hl
                · exact ⟨k + d, by omega, by omega, hg, h⟩
            obtain ⟨q, hq, hqs, h1, h2⟩ := find (ops.size - k) (by omega) (by rw [show k + (ops.size - k) = ops.size by omega]; exact x)
            have hDq := y q hqs h1 h2
            have hoq := Array.getElem?_eq_getElem hqs
            rcases barrier_spec hbb q _ hoq with h | h | h | h
            · subst h; rw [hun] at hDq; cases hDq
            · have hoo := List.all_eq_true.1 hok ops[q] (Array.mem_toList_iff.2 (Array.getElem_mem hqs))
              simp only [okOp, Bool.and_eq_true] at hoo
              have hH : H1s q = { Hs q with low := (Hs q).n } := (stepOne_i E h hoo.2 (r.step q _ hoq)).1
              rw [r.next q hqs, hH] at h2
              have h2 : i < (Hs q).n := h2
              omega
            · have := hD.back _ _ h; omega
            · have := notD q h; rw [this] at hDq; cases hDq
        have he : cut (mix μ μ1 (Hs k).n (Hs (k + 1)).n) (Hs k').n = μ1 := by
          have hle := (r.le ha W (show k + 1 ≤ k' by omega) hk').n
          funext i
          cases h1 : μ1 i with
          | some m => exact hsub1 _ hle i m h1
          | none =>
            cases hc : cut (mix μ μ1 (Hs k).n (Hs (k + 1)).n) (Hs k').n i with
            | none => rfl
            | some m =>
              rcases parts i m (cut_some hc).2 with h | ⟨_, _, h⟩
              · have := ext1 i m h (hno i m h); rw [h1] at this; cases this
              · rw [h1] at h; cases h
        rw [he]
        obtain ⟨d, rfl⟩ : ∃ d, k' = k + 1 + d := ⟨k' - (k + 1), by omega⟩
        obtain ⟨g1, g2⟩ := r.agree ha W hok (k + 1) d hk' hnb
        exact R1.agree (r.wf ha W _ hk') (r.mono ha W (k + 1) d hk').n g1 g2
      · -- quiet
        have hqk : (Hs k).n ≤ (H1s k).low := Classical.byContradiction fun hc => hbar ⟨o, hk, hin, hc⟩
        have hcut0 : ∀ b, b < ops.size → isBar ops Hs H1s b → (b < k' ↔ listed.getD b false = true) := fun b hb hbb => by
          have := hcut b hb hbb
          rw [hset] at this
          split at this
          · rename_i e; subst e; exact absurd hbb hbar
          · exact this
        have RAw := I.mem k' hk' hcut0
        have hsame : ∀ B, B < w.heap.size → w'.heap[B]? = w.heap[B]? := fun B hB => S.foot B hB fun i m hm hb f hof => by
          have hi := (cut_some hm).1
          have := (owner_lt Wk (i := i) (f := f) hof).1
          omega
        have RA := RAw.world S.size hsame
        rcases Nat.lt_or_ge k k' with hkk | hkk
        · have hnb : ∀ b, k + 1 ≤ b → b < k' → ¬ isBar ops Hs H1s b := fun b h1 h2 hb => by
            have h3 := (hcut0 b (by omega) hb).1 h2
            have := (hcutk b (by omega) hb).2 h3
            omega
          obtain ⟨d, rfl⟩ : ∃ d, k' = k + 1 + d := ⟨k' - (k + 1), by omega⟩
          obtain ⟨g1, g2⟩ := r.agree ha W hok (k + 1) d hk' hnb
          refine RA.merge R1 nle' (r.mono ha W (k + 1) d hk').n rfl g1 g2 low1 ext1 hfree fun i m h1 hi j mj hj hj1 hj2 hb => ?_
          have hjb := RAw.blk_lt (cut_of hj2 hj)
          have hci : cut μ (Hs k).n i = none := by unfold cut; rw [if_neg (by omega)]
          rcases (S.new i m h1 hci).2 with h | ⟨j0, mj0, h0, hb0, ho0⟩
          · omega
          · obtain ⟨hl0, hm0⟩ := cut_some h0
            have hle := (r.mono ha W (k + 1) d hk').n
            have e1 := RAw.apart j j0 mj mj0 (cut_of hj2 hj) (cut_of (by omega) hm0) (hb.trans hb0.symm)
            rw [e1, (r.le ha W (show k ≤ k + 1 + d by omega) hk').own Wk j0 hl0]
            have e3 : owner (Hs (k + 1)) i = owner (H1s k) i := by rw [r.next k hks]; rfl
            rw [e3]
            exact ho0
        · have hle := (r.le ha W hkk (show k ≤ ops.size by omega)).n
          have he : cut (mix μ μ1 (Hs k).n (Hs (k + 1)).n) (Hs k').n = cut μ (Hs k').n := by
            funext i
            unfold cut
            split
            · unfold mix; rw [if_pos (by omega)]
            · rfl
          rw [he]
          exact RA
    refine ⟨mix μ μ1 (Hs k).n (Hs (k + 1)).n, by simpa using I.lsz, by rw [put_size]; exact I.asz, by rw [put_defers]; exact I.defers, dc', I.ext.trans hsub, fun i m h => ?_, memk, ?_, fun i m h h0 => ?_, fun B hB hf => ?_,
      S.os.trans I.os, S.tape.trans I.tape, S.out.trans I.out, Nat.le_trans I.size S.size⟩
    · rcases parts i m h with h | ⟨h1, h2, h⟩
      · exact idsMono i m h
      · refine ⟨by have := (r.le ha W (show k + 1 ≤ ops.size by omega) (Nat.le_refl _)).n; omega, fun q hq a1 a2 => ?_⟩
        rw [hset]
        split
        · rfl
        · rename_i hne
          exfalso
          rcases Nat.lt_or_ge q k with hl | hg
          · have := (r.le ha W (show q + 1 ≤ k by omega) (by omega)).n; omega
          · have := (r.le ha W (show k + 1 ≤ q by omega) (by omega)).n; omega
    · refine I.tmp_step r ha W hD hk hdst hun hv (fun N i m h => ?_) fun k' h1 h2 => hvr.mono (hsub1 _ (r.le ha W (show k + 1 ≤ k' by omega) h2).n)
      obtain ⟨hi, hm⟩ := cut_some h
      exact cut_of hi (hsub i m hm)
    · rcases parts i m h with h | ⟨h1, h2, h⟩
      · exact I.new i m h h0
      · have hn0 := (r.le ha W (Nat.zero_le k) (by omega)).n
        refine ⟨by omega, ?_⟩
        have hci : cut μ (Hs k).n i = none := by unfold cut; rw [if_neg (by omega)]
        rcases (S.new i m h hci).2 with hh | ⟨j, mj, hj, hb, hoj⟩
        · exact .inl (Nat.le_trans I.size hh)
        · obtain ⟨hjl, hjm⟩ := cut_some hj
          have hoj : owner (Hs k) j = owner (H1s k) i := hoj
          cases h00 : μ0 j with
          | some m2 =>
            have e := I.ext j m2 h00
            rw [hjm] at e; cases e
            exact .inr ⟨j, mj, h00, hb, by rw [ownn1 i h2, ← hoj, own0 j (R0.lt h00)]⟩
          | none =>
            rcases (I.new j mj hjm h00).2 with hh | ⟨j2, mj2, hj2, hb2, ho2⟩
            · exact .inl (hb ▸ hh)
            · exact .inr ⟨j2, mj2, hj2, hb2.trans hb, by rw [ho2, ownn j hjl, hoj, ownn1 i h2]⟩
    · rw [S.foot B (Nat.lt_of_lt_of_le hB I.size) (fun i m hm hb f hof => ?_), I.foot B hB hf]
      obtain ⟨hil, hmi⟩ := cut_some hm
      have hof : owner (Hs k) i = some f := hof
      cases h00 : μ0 i with
      | some m2 =>
        have e := I.ext i m2 h00
        rw [hmi] at e; cases e
        have := hf i m h00 hb f (by rw [← own0 i (R0.lt h00)]; exact hof)
        omega
      | none =>
        rcases (I.new i m hmi h00).2 with hh | ⟨j2, mj2, hj2, hb2, ho2⟩
        · omega
        · have := hf j2 mj2 hj2 (hb2.trans hb) f (by rw [ho2, ownn i hil]; exact hof)
          omega
end
end Go.Proofs.YtmbofpmjckjceaaDoor.E
