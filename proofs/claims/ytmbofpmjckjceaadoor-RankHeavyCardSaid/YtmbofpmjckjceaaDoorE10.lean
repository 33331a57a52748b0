/- What the evaluator does to its own memory, whatever the model does. No condition. -/
import Derived.Test.YtmbofpmjckjceaaDoorE9
namespace Go.Proofs.YtmbofpmjckjceaaDoor.E
open Go Go.RowKit
set_option linter.unusedVariables false
set_option linter.unusedSimpArgs false
/-- Of what was there only what is owned from 'low' on has turned. -/
structure AStp (H H' : Mem) : Prop where
  wf : WF H → WF H'
  n : H.n ≤ H'.n
  own : WF H → ∀ i, i < H.n → owner H' i = owner H i
  obs : ∀ i, i < H.n → (∀ f, owner H i = some f → f < H'.low) → H'.obs.get i = H.obs.get i
  gens : ∀ f, f < H.n → f < H'.low → H'.gens.get f = H.gens.get f
  low : H'.low ≤ H.low
section
variable {H H' H'' : Mem} {P : Program}
theorem AStp.refl (H : Mem) : AStp H H := ⟨id, Nat.le_refl _, fun _ _ _ => rfl, fun _ _ _ => rfl, fun _ _ _ => rfl, Nat.le_refl _⟩
theorem AStp.trans (W : WF H) (S : AStp H H') (K : AStp H' H'') : AStp H H'' :=
  ⟨fun _ => K.wf (S.wf W), Nat.le_trans S.n K.n, fun _ i hi => (K.own (S.wf W) i (Nat.lt_of_lt_of_le hi S.n)).trans (S.own W i hi),
    fun i hi hf => by rw [K.obs i (Nat.lt_of_lt_of_le hi S.n) (fun f hf' => hf f (by rw [← S.own W i hi]; exact hf')), S.obs i hi (fun f hf' => Nat.lt_of_lt_of_le (hf f hf') K.low)],
    fun f hf hl => by rw [K.gens f (Nat.lt_of_lt_of_le hf S.n) hl, S.gens f hf (Nat.lt_of_lt_of_le hl K.low)], Nat.le_trans K.low S.low⟩
theorem AStp.new (H : Mem) (cs : List Value) (e : Nat) : AStp H (H.new cs e) := by
  have hget : ∀ i, (H.new cs e).obs.get i = if H.n = i then some (.blk ⟨cs, e, H.n, 0, false⟩) else H.obs.get i := fun i => Tr.get_set _ _ _ _
  exact ⟨fun W => W.new cs e, Nat.le_succ _, fun _ i hi => by rw [owner_new, if_neg (by omega)], fun i hi _ => by rw [hget, if_neg (by omega)], fun _ _ _ => rfl, Nat.le_refl _⟩
theorem AStp.put {i : Nat} {b : Blk} (hl : H.live i = some b) (hr : b.ro = false) (cs : List Value) : AStp H (H.put i b cs) := by
  obtain ⟨ho, ha⟩ := live_some hl
  have hown : owner H i = some b.fam := by rw [owner_blk ho, hr]; rfl
  have hlow : (H.put i b cs).low = min H.low b.fam := by unfold Mem.put; split <;> rfl
  have hnn : (H.put i b cs).n = H.n := by unfold Mem.put; split <;> rfl
  refine ⟨fun W => W.put ho hr ha cs, by rw [hnn]; exact Nat.le_refl _, fun _ j _ => owner_put ho cs j, fun j hj hf => ?_, fun f hf hfl => ?_, by rw [hlow]; omega⟩
  · rw [put_get, if_neg]
    intro e
    subst e
    have := hf b.fam hown
    rw [hlow] at this
    omega
  · rw [hlow] at hfl
    unfold Mem.put
    split
    · rfl
    · exact Tr.get_set_ne _ _ (by omega)
theorem AStp.wr {i off : Nat} {vs : List Value} (h : wr H i off vs = some H') : AStp H H' := by
  obtain ⟨b, hb, hr, _, _, rfl⟩ := wr_some h
  exact .put hb hr _
theorem AStp.grow {i : Nat} {b : Blk} (hl : H.live i = some b) (hr : b.ro = false) (he : b.esz ≠ 0) (keep : Bool) (cs : List Value) : AStp H (H.grow i b keep cs) := by
  obtain ⟨ho, ha⟩ := live_some hl
  have hown : owner H i = some b.fam := by rw [owner_blk ho, hr]; rfl
  have hlow : (H.grow i b keep cs).low = min H.low b.fam := rfl
  refine ⟨fun W => W.grow ho hr he keep cs, Nat.le_succ _, fun _ j hj => by rw [owner_grow ho hr, if_neg (by omega)], fun j hj hf => ?_, fun f hf hfl => ?_, by rw [hlow]; omega⟩
  · rw [grow_get, if_neg (by omega), if_neg]
    rintro ⟨_, e⟩
    subst e
    have := hf b.fam hown
    rw [hlow] at this
    omega
  · rw [hlow] at hfl
    exact Tr.get_set_ne _ _ (by omega)
theorem AStp.newMap (H : Mem) : AStp H H.newMap := by
  have hget : ∀ i, H.newMap.obs.get i = if H.n = i then some (.map [] 0) else H.obs.get i := fun i => Tr.get_set _ _ _ _
  exact ⟨fun W => W.newMap, Nat.le_succ _, fun _ i hi => by rw [owner_newMap, if_neg (by omega)], fun i hi _ => by rw [hget, if_neg (by omega)], fun _ _ _ => rfl, Nat.le_refl _⟩
theorem AStp.putMap {r c0 c : Nat} {es0 es : List MapEntry} (hg : H.getMap r = some (es0, c0)) : AStp H (H.putMap r es c) := by
  have ho := getMap_some hg
  have hown : owner H r = some r := owner_map ho
  have hlow : (H.putMap r es c).low = min H.low r := rfl
  have how : ∀ j, owner (H.putMap r es c) j = owner H j := fun j => by
    have hg := putMap_get H r es c j
    by_cases e : r = j
    · subst e; rw [if_pos rfl] at hg; rw [owner_map hg, hown]
    · rw [if_neg e] at hg; exact owner_of hg
  refine ⟨fun W => ⟨fun i o h => ?_, fun i b h hr => ?_, W.gen⟩, Nat.le_refl _, fun _ i _ => how i, fun i hi hf => ?_, fun f _ _ => rfl, by rw [hlow]; omega⟩
  · rw [putMap_get] at h
    show i < H.n
    split at h
    · rename_i e; subst e; exact W.lt _ _ ho
    · exact W.lt i o h
  · rw [putMap_get] at h
    split at h
    · cases h
    · obtain ⟨x1, x2, x3, x4⟩ := W.fam i b h hr
      refine ⟨x1, x2, x3, fun he => ?_⟩
      obtain ⟨b', hb', y⟩ := x4 he
      exact ⟨b', by rw [putMap_get, if_neg (fun e => by rw [← e, ho] at hb'; cases hb')]; exact hb', y⟩
  · rw [putMap_get, if_neg]
    intro e
    subst e
    have := hf r hown
    rw [hlow] at this
    omega
theorem appendV_a {e bytes k : Nat} {s v : Value} {new : List Value} (h : appendV H e bytes s new k = some (v, H')) : AStp H H' := by
  unfold appendV at h
  split at h
  · split at h
    · rename_i hc
      split at h
      · split at h
        · cases h
        · split at h
          · cases h
          · rename_i b hb
            split at h
            · rename_i hcond
              split at h
              · cases h; exact .refl _
              · split at h
                · obtain ⟨H1, h1, hq⟩ := Option.map_eq_some_iff.1 h
                  cases hq
                  exact .wr h1
                · cases h
                  exact .grow hb hcond.2.1 (by omega) _ _
            · cases h
      · split at h
        · split at h
          · cases h; exact .refl _
          · split at h
            · cases h
            · obtain ⟨H1, h1, hq⟩ := Option.map_eq_some_iff.1 h
              cases hq
              exact .wr h1
        · split at h
          · cases h
          · cases h; exact .new _ _ _
    · cases h
  · cases h
theorem builtinV_a {b : Builtin} {ts : Array TypeId} {ty : TypeId} {consts : Array Bool} {args : List Value} {v : Value} (h : builtinV P H b ts ty consts args = some (v, H')) : AStp H H' := by
  unfold builtinV at h
  split at h
  · split at h
    · cases h; exact .refl _
    · cases h; exact .refl _
    · cases h; exact .refl _
    · obtain ⟨m, _, hq⟩ := Option.map_eq_some_iff.1 h
      cases hq; exact .refl _
    · cases h
  · split at h
    · split at h
      · cases h
      · cases h; exact .refl _
    · cases h
  · split at h
    · split at h
      · split at h
        · cases h
        · split at h
          · split at h
            · split at h
              · exact appendV_a h
              · cases h
            · cases h
          · split at h
            · split at h
              · exact appendV_a h
              · cases h
            · cases h
      · cases h
    · cases h
  · split at h
    · split at h
      · split at h
        · split at h
          · split at h
            · cases h; exact .refl _
            · obtain ⟨H1, h1, hq⟩ := Option.map_eq_some_iff.1 h
              cases hq
              exact .wr h1
          · cases h; exact .refl _
        · cases h
      · cases h
    · cases h
  · split at h
    · cases h; exact .refl _
    · split at h
      · cases h; exact .refl _
      · split at h
        · obtain ⟨H1, h1, hq⟩ := Option.map_eq_some_iff.1 h
          cases hq
          exact .wr h1
        · cases h
    · cases h
  · split at h
    · obtain ⟨m, _, hq⟩ := Option.map_eq_some_iff.1 h
      cases hq; exact .refl _
    · cases h
  · split at h
    · obtain ⟨m, _, hq⟩ := Option.map_eq_some_iff.1 h
      cases hq; exact .refl _
    · cases h
  · cases h
theorem storeV_a {t : TypeId} {a : Addr} {v : Value} (h : storeV P H t a v = some H') : AStp H H' := by
  unfold storeV at h
  split at h
  · exact .wr h
  · cases h
/-- An operation. Where it is inert, nothing of the memory is asked. -/
theorem opStep_a (E : Env) {T : Tr Value} {o : Oper} {re : Re} (h : opStep E T H o = some (re, H')) : AStp H H' ∧ ((∃ f args, re = .enter f args) → H' = H) := by
  obtain ⟨dst, op, type, pos, after, guard⟩ := o
  have same : ∀ {v : Value}, (re, H') = (Re.val v, H) → AStp H H' ∧ ((∃ f args, re = .enter f args) → H' = H) := fun e => by cases e; exact ⟨.refl _, fun _ => rfl⟩
  cases op
  all_goals simp only [opStep] at h
  case move x => cases h; exact same rfl
  case assign x => cases h; exact same rfl
  case pick => split at h <;> first | (cases h; exact same rfl) | cases h
  case alloc =>
    obtain ⟨m, _, hq⟩ := Option.map_eq_some_iff.1 h
    cases hq; exact ⟨.new _ _ _, fun ⟨_, _, e⟩ => by cases e⟩
  case box => cases h; exact ⟨.new _ _ _, fun ⟨_, _, e⟩ => by cases e⟩
  case build =>
    obtain ⟨m, _, hq⟩ := Option.map_eq_some_iff.1 h
    cases hq; exact same rfl
  case buildSlice =>
    split at h
    · cases h
    · split at h
      · split at h
        · split at h
          · cases h; exact ⟨.new _ _ _, fun ⟨_, _, e⟩ => by cases e⟩
          · cases h
        · cases h
      · cases h
  case load =>
    split at h
    · obtain ⟨m, _, hq⟩ := Option.map_eq_some_iff.1 h
      cases hq; exact same rfl
    · cases h
  case store =>
    split at h
    · obtain ⟨H1, h1, hq⟩ := Option.map_eq_some_iff.1 h
      cases hq; exact ⟨storeV_a h1, fun ⟨_, _, e⟩ => by cases e⟩
    · cases h
  case nilCheck => split at h <;> first | (cases h; exact same rfl) | cases h
  case binOp =>
    obtain ⟨m, _, hq⟩ := Option.map_eq_some_iff.1 h
    cases hq; exact same rfl
  case unOp =>
    split at h
    · obtain ⟨m, _, hq⟩ := Option.map_eq_some_iff.1 h
      cases hq; exact same rfl
    · cases h
  case convert =>
    obtain ⟨m, _, hq⟩ := Option.map_eq_some_iff.1 h
    cases hq; exact same rfl
  case makeInterface => split at h <;> first | (cases h; exact same rfl) | cases h
  case makeFunc => cases h; exact same rfl
  case makeMap t r =>
    cases r with
    | some r => simp [opStep] at h
    | none => simp only [opStep] at h; cases h; exact ⟨.newMap _, fun ⟨_, _, e⟩ => by cases e⟩
  case makeSlice =>
    split at h
    · split at h
      · split at h
        · cases h; exact ⟨.new _ _ _, fun ⟨_, _, e⟩ => by cases e⟩
        · cases h
      · cases h
    · cases h
  case slice =>
    obtain ⟨m, _, hq⟩ := Option.map_eq_some_iff.1 h
    cases hq; exact same rfl
  case fieldAddr =>
    split at h
    · split at h
      · split at h
        · split at h
          · cases h
          · cases h; exact same rfl
        · cases h
      · cases h
    · cases h
  case field =>
    split at h
    · split at h
      · obtain ⟨m, _, hq⟩ := Option.map_eq_some_iff.1 h
        cases hq; exact same rfl
      · cases h
    · cases h
  case indexAddr =>
    split at h
    · split at h
      · split at h
        · cases h; exact same rfl
        · cases h
      · cases h
    · split at h
      · split at h
        · cases h; exact same rfl
        · cases h
      · cases h
    · cases h
  case index =>
    split at h
    · split at h
      · split at h
        · obtain ⟨m, _, hq⟩ := Option.map_eq_some_iff.1 h
          cases hq; exact same rfl
        · cases h
      · cases h
    · obtain ⟨m, _, hq⟩ := Option.map_eq_some_iff.1 h
      cases hq; exact same rfl
    · cases h
  case lookup =>
    split at h
    · split at h
      · split at h
        · split at h
          · split at h
            · split at h
              · cases h; exact same rfl
              · cases h; exact same rfl
              · cases h
            · cases h
          · cases h
        · cases h
      · cases h
    · cases h
  case mapEntry =>
    split at h
    · split at h
      · rename_i hg
        split at h
        · split at h
          · split at h
            · cases h; exact ⟨.putMap hg, fun ⟨_, _, e⟩ => by cases e⟩
            · cases h
          · cases h; exact ⟨.putMap hg, fun ⟨_, _, e⟩ => by cases e⟩
          · cases h
        · cases h
      · cases h
    · cases h
  case mapUpdate =>
    split at h
    · split at h
      · rename_i hg
        split at h
        · split at h
          · cases h; exact ⟨.putMap hg, fun ⟨_, _, e⟩ => by cases e⟩
          · cases h; exact ⟨.putMap hg, fun ⟨_, _, e⟩ => by cases e⟩
          · cases h
        · cases h
      · cases h
    · cases h
  case entryStore =>
    split at h
    · split at h
      · rename_i hg
        split at h
        · cases h; exact ⟨.putMap hg, fun ⟨_, _, e⟩ => by cases e⟩
        · cases h
      · cases h
    · cases h
  case extract =>
    split at h
    · obtain ⟨m, _, hq⟩ := Option.map_eq_some_iff.1 h
      cases hq; exact same rfl
    · cases h
  case call c =>
    obtain ⟨callee, args, argTypes⟩ := c
    cases callee with
    | builtin b =>
      simp only at h
      obtain ⟨m, hm, hq⟩ := Option.map_eq_some_iff.1 h
      cases hq; exact ⟨builtinV_a (v := m.1) hm, fun ⟨_, _, e⟩ => by cases e⟩
    | value f =>
      simp only at h
      split at h
      · split at h
        · split at h
          · cases h; exact ⟨.refl _, fun _ => rfl⟩
          · split at h
            · split at h
              · obtain ⟨m, _, hq⟩ := Option.map_eq_some_iff.1 h
                cases hq; exact same rfl
              · cases h
            · cases h
        · cases h
      · cases h
    | invoke rc nm => simp at h
  all_goals (cases h; done)
/-- Of calls. -/
def CallA (call : Call) : Prop := ∀ f args H v H', call f args H = some (v, H') → WF H → AStp H H'
theorem stepOne_a (E : Env) {call : Call} (hc : CallA call) {ops : Array Oper} {o : Oper} {T T' : Tr Value} (h : stepOne E call ops o T H = some (T', H')) (W : WF H) : AStp H H' ∧ ∃ v, T' = putT T o.dst v := by
  unfold stepOne at h
  split at h
  · split at h
    · rename_i v H1 h1
      cases h; exact ⟨(opStep_a E h1).1, _, rfl⟩
    · rename_i H1 h1
      cases h; exact ⟨(opStep_a E h1).1, _, rfl⟩
    · rename_i f args H1 h1
      obtain ⟨a1, a2⟩ := opStep_a E h1
      have := a2 ⟨_, _, rfl⟩
      subst this
      split at h
      · rename_i v H2 h2
        cases h; exact ⟨hc _ _ _ _ _ h2 W, _, rfl⟩
      · cases h
    · cases h
  · cases h; exact ⟨.refl _, _, rfl⟩
theorem evList_a (E : Env) {call : Call} (hc : CallA call) {ops : Array Oper} : ∀ (l : List Oper) (T T' : Tr Value) (H H' : Mem), evList E call ops l T H = some (T', H') → WF H → AStp H H'
  | [], T, T', H, H', h, W => by cases h; exact .refl _
  | o :: l, T, T', H, H', h, W => by
    unfold evList at h
    split at h
    · rename_i T1 H1 h1
      have S := (stepOne_a E hc h1 W).1
      exact S.trans W (evList_a E hc l _ _ _ _ h (S.wf W))
    · cases h
theorem WF.low (W : WF H) (l : Nat) : WF { H with low := l } := ⟨W.lt, W.fam, W.gen⟩
theorem owner_low (H : Mem) (l i : Nat) : owner { H with low := l } i = owner H i := rfl
theorem AStp.relow (S : AStp { H with low := H.n } H') : AStp H { H' with low := min H.low H'.low } :=
  ⟨fun W => (S.wf (W.low _)).low _, S.n, fun W i hi => S.own (W.low _) i hi, fun i hi hf => S.obs i hi (fun f hf' => by have := hf f hf'; simp at this; omega), fun f hf hl => S.gens f hf (by simp at hl; omega), by simp; omega⟩
theorem evDraw_a (E : Env) {call : Call} (hc : CallA call) {ops : Array Oper} : ∀ (l : List Oper) (k : Nat) (T T' : Tr Value) (H H' : Mem), evDraw E call ops l k T H = some (T', H') → WF H → AStp H H'
  | [], k, T, T', H, H', h, W => by cases h; exact .refl _
  | o :: l, k, T, T', H, H', h, W => by
    unfold evDraw at h
    split at h
    · rename_i T1 H1 h1
      split at h
      · have S := (stepOne_a E hc h1 (W.low _)).1.relow
        exact S.trans W (evDraw_a E hc l _ _ _ _ _ h (S.wf W))
      · cases h
    · cases h
theorem iter_a {f : St → Option (Ex × St)} (hf : ∀ T H ex T' H', f (T, H) = some (ex, T', H') → WF H → AStp H H') : ∀ (n : Nat) (T T' : Tr Value) (H H' : Mem) (ex : Ex), iter f n (T, H) = some (ex, T', H') → WF H → AStp H H'
  | 0, _, _, _, _, _, h, _ => by cases h
  | n + 1, T, T', H, H', ex, h, W => by
    unfold iter at h
    split at h
    · rename_i s' h1
      obtain ⟨T1, H1⟩ := s'
      have S := hf _ _ _ _ _ h1 W
      exact S.trans W (iter_a hf n _ _ _ _ _ h (S.wf W))
    · rename_i r h1
      exact hf _ _ _ _ _ h W
theorem evCode_a (E : Env) {call : Call} (hc : CallA call) (n : Nat) : ∀ (c : Code) (T T' : Tr Value) (H H' : Mem) (ex : Ex), evCode E call n c (T, H) = some (ex, T', H') → WF H → AStp H H' := by
  intro c
  induction c with
  | skip => intro T T' H H' ex h W; simp only [evCode] at h; cases h; exact .refl _
  | region id ops draw =>
    intro T T' H H' ex h W
    simp only [evCode] at h
    obtain ⟨⟨T1, H1⟩, hm, hq⟩ := Option.map_eq_some_iff.1 h
    cases hq
    split at hm
    · exact evDraw_a E hc _ _ _ _ _ _ hm W
    · exact evList_a E hc _ _ _ _ _ hm W
  | seq x y ihx ihy =>
    intro T T' H H' ex h W
    simp only [evCode] at h
    split at h
    · rename_i s' h1
      obtain ⟨T1, H1⟩ := s'
      have S := ihx _ _ _ _ _ h1 W
      exact S.trans W (ihy _ _ _ _ _ h (S.wf W))
    · exact ihx _ _ _ _ _ h W
  | cond c x y ihx ihy =>
    intro T T' H H' ex h W
    simp only [evCode] at h
    split at h
    · exact ihx _ _ _ _ _ h W
    · exact ihy _ _ _ _ _ h W
    · cases h
  | block id b ih =>
    intro T T' H H' ex h W
    simp only [evCode] at h
    split at h
    · rename_i i s' h1
      obtain ⟨T1, H1⟩ := s'
      split at h
      · cases h; exact ih _ _ _ _ _ h1 W
      · cases h; exact ih _ _ _ _ _ h1 W
    · exact ih _ _ _ _ _ h W
  | loop b ih =>
    intro T T' H H' ex h W
    simp only [evCode] at h
    exact iter_a (fun T H ex T' H' => ih T T' H H' ex) n _ _ _ _ _ h W
  | exit id => intro T T' H H' ex h W; simp only [evCode] at h; cases h; exact .refl _
  | ret => intro T T' H H' ex h W; simp only [evCode] at h; cases h; exact .refl _
  | rangeFunc => intro T T' H H' ex h W; simp [evCode] at h
  | scope => intro T T' H H' ex h W; simp [evCode] at h
  | label => intro T T' H H' ex h W; simp [evCode] at h
  | goto => intro T T' H H' ex h W; simp [evCode] at h
  | refuse => intro T T' H H' ex h W; simp [evCode] at h
theorem evCall_a (E : Env) (hI : ∀ f g, E.I f = some g → ∀ args H v H', g args H = some (v, H') → WF H → AStp H H') : ∀ n, CallA (evCall E n)
  | 0 => fun f args H v H' h => by simp [evCall] at h
  | n + 1 => fun f args H v H' h W => by
    have ih := evCall_a E hI n
    simp only [evCall] at h
    split at h
    · rename_i g hg
      exact hI f g hg _ _ _ _ h W
    · split at h
      · cases h
      · split at h
        · cases h
        · split at h
          · cases h
          · split at h
            · cases h
            · split at h
              · rename_i T1 H1 h1
                obtain ⟨m, _, hq⟩ := Option.map_eq_some_iff.1 h
                cases hq; exact evCode_a E ih n _ _ _ _ _ _ h1 W
              · rename_i T1 H1 h1
                obtain ⟨m, _, hq⟩ := Option.map_eq_some_iff.1 h
                cases hq; exact evCode_a E ih n _ _ _ _ _ _ h1 W
              · cases h
end
end Go.Proofs.YtmbofpmjckjceaaDoor.E
