/- One operation, and rows of them in the order of the text. No condition. -/
import Derived.Test.YtmbofpmjckjceaaDoorE10
namespace Go.Proofs.YtmbofpmjckjceaaDoor.E
open Go Go.RowKit
set_option linter.unusedVariables false
set_option linter.unusedSimpArgs false
/-- What is shown of calls. -/
def CallC (P : Program) (base : Nat) (call : Call) : Prop :=
  ∀ f args H v H', call f args H = some (v, H') → ∀ μ w args', Rl base μ H w → VRa μ args args' →
    Calls P f args' w (fun e w' => ∃ μ' v', e = .returned v' ∧ Stp base μ H w μ' H' w' ∧ VR μ' v v')
section
variable {base : Nat} {μ : Mp} {H H' : Mem} {w : World} {P : Program}
def boolOf : Value → Option Bool
  | .bool b => some b
  | _ => none
theorem VR.is_bool {x y : Value} (h : VR μ x y) : boolOf x = boolOf y := by cases h <;> rfl
theorem yield_at {ops : Array Oper} {T : Tr Value} {a : Act} {j : Nat} (h : ∀ d, (ops[j]?).bind (·.dst) = some d → VR μ ((T.get d).getD undef) (a.tmps.getD d undef)) : yieldT ops T j = yielded ops a.tmps j := by
  unfold yieldT yielded
  cases hd : (ops[j]?).bind (·.dst) with
  | none => rfl
  | some d =>
    have hv := (h d hd).is_bool
    simp only [Option.bind_some]
    refine Eq.trans (b := boolOf ((T.get d).getD undef)) ?_ (hv.trans ?_)
    · cases T.get d with
      | none => rfl
      | some v => cases v <;> rfl
    · rw [Array.getD_eq_getD_getElem?]
      cases a.tmps[d]? with
      | none => rfl
      | some v => cases v <;> rfl
/-- What an operation looks at. -/
def looks (ops : Array Oper) (o : Oper) : List Tmp :=
  (o.op.operands.toList.filterMap fun | .tmp t => some t | _ => none) ++ (match o.guard with | some (g, _) => ((ops[g]?).bind (·.dst)).toList | none => [])
theorem looks_ev {ops : Array Oper} {o : Oper} {T : Tr Value} {a : Act} (ho : o.op.operands.toList.all okO = true) (hl : ∀ t, t ∈ looks ops o → VR μ ((T.get t).getD undef) (a.tmps.getD t undef)) :
    (∀ x, x ∈ o.op.operands → VR μ (evalO T x) (a.eval x)) ∧ Region.wanted o (yieldT ops T) = Region.wanted o (yielded ops a.tmps) := by
  refine ⟨fun x hx => ?_, ?_⟩
  · have hok := List.all_eq_true.1 ho x (Array.mem_toList_iff.2 hx)
    cases x with
    | tmp t => exact hl t (List.mem_append.2 (.inl (List.mem_filterMap.2 ⟨.tmp t, Array.mem_toList_iff.2 hx, rfl⟩)))
    | const v => exact VR.of_flat μ depth hok
    | global g => simp [okO] at hok
    | func f => exact .func' _ ⟨rfl, fun i x y h => by simp at h⟩ ⟨rfl, fun i x y h => by simp at h⟩
  · unfold Region.wanted
    cases hg : o.guard with
    | none => rfl
    | some p =>
      obtain ⟨j, b⟩ := p
      simp only
      rw [yield_at (ops := ops) (T := T) (a := a) fun d hd => hl d (List.mem_append.2 (.inr (by rw [hg]; simp [hd])))]
/-- A value put into its temporary: what an operation has done, for whatever follows. -/
theorem stepOne_c (E : Env) (hE : EnvOk E) {call : Call} (hc : CallC E.P base call) {ops : Array Oper} {o : Oper} {T T' : Tr Value} (ho : o.op.operands.toList.all okO = true) (h : stepOne E call ops o T H = some (T', H')) :
    ∃ v, T' = putT T o.dst v ∧ ∀ (μ : Mp) (w : World) (a : Act) (K : Act → World → Prop) (Q : Exit → Act → World → Prop), Rl base μ H w → (∀ t, t ∈ looks ops o → VR μ ((T.get t).getD undef) (a.tmps.getD t undef)) →
      (∀ μ' v' w', Stp base μ H w μ' H' w' → VR μ' v v' → K (a.put o.dst v') w') →
      (if Region.wanted o (yielded ops a.tmps) = true then o.wp E.P a w K Q else K (a.put o.dst undef) w) := by
  unfold stepOne at h
  split at h
  · rename_i hw
    have fin : ∀ re H1, opStep E T H o = some (re, H1) → ∀ (μ : Mp) (w : World) (a : Act), Rl base μ H w → (∀ t, t ∈ looks ops o → VR μ ((T.get t).getD undef) (a.tmps.getD t undef)) →
        Region.wanted o (yielded ops a.tmps) = true ∧ OpR base μ H w re H1 ((execOp a.eval o).run E.P w) := fun re H1 h1 μ w a R hl => by
      obtain ⟨e1, e2⟩ := looks_ev ho hl
      exact ⟨e2 ▸ hw, opStep_ok E hE R e1 h1⟩
    split at h
    · rename_i v H1 h1
      cases h
      refine ⟨v, rfl, fun μ w a K Q R hl hK => ?_⟩
      obtain ⟨q1, μ', v', w', q2, q3, q4⟩ := fin _ _ h1 μ w a R hl
      rw [if_pos q1]
      unfold Oper.wp
      rw [q2]
      exact hK μ' v' w' q3 q4
    · rename_i H1 h1
      cases h
      refine ⟨undef, rfl, fun μ w a K Q R hl hK => ?_⟩
      obtain ⟨q1, μ', w', q2, q3⟩ := fin _ _ h1 μ w a R hl
      rw [if_pos q1]
      unfold Oper.wp
      rw [q2]
      exact hK μ' undef w' q3 (VR.undef _)
    · rename_i f args H1 h1
      split at h
      · rename_i v H2 h2
        cases h
        refine ⟨v, rfl, fun μ w a K Q R hl hK => ?_⟩
        obtain ⟨q1, rfl, args', q2, q3⟩ := fin _ _ h1 μ w a R hl
        rw [if_pos q1]
        unfold Oper.wp
        rw [q2]
        simp only [Oper.upon]
        refine (hc _ _ _ _ _ h2 μ w args' R q3).mono fun e w'' => ?_
        rintro ⟨μ', v', rfl, S, hv⟩
        exact hK μ' v' w'' S hv
      · cases h
    · cases h
  · rename_i hw
    cases h
    refine ⟨undef, rfl, fun μ w a K Q R hl hK => ?_⟩
    obtain ⟨_, e2⟩ := looks_ev (μ := μ) ho hl
    rw [if_neg (by rw [← e2]; exact hw)]
    exact hK μ undef w (.refl R) (VR.undef _)
/-- An inert one: the memory has no part in it. -/
theorem stepOne_i (E : Env) {call : Call} {ops : Array Oper} {o : Oper} {T T' : Tr Value} (hi : inert o = true) (ho : o.op.operands.toList.all okO = true) (h : stepOne E call ops o T H = some (T', H')) :
    H' = H ∧ ∃ v, T' = putT T o.dst v ∧ ∀ (μ : Mp) (w : World) (a : Act) (K : Act → World → Prop) (Q : Exit → Act → World → Prop), (∀ t, t ∈ looks ops o → VR μ ((T.get t).getD undef) (a.tmps.getD t undef)) →
      (∀ v', VR μ v v' → K (a.put o.dst v') w) →
      (if Region.wanted o (yielded ops a.tmps) = true then o.wp E.P a w K Q else K (a.put o.dst undef) w) := by
  unfold stepOne at h
  split at h
  · rename_i hw
    have fin : ∀ re H1, opStep E T H o = some (re, H1) → ∃ v, re = .val v ∧ H1 = H := fun re H1 h1 => by
      -- by any values that fit: none is needed to know what it is
      obtain ⟨dst, op, type, pos, after, guard⟩ := o
      cases op
      all_goals first
        | (simp [inert] at hi; done)
        | skip
      all_goals clear hi
      all_goals simp only [opStep] at h1
      all_goals repeat' split at h1
      all_goals first
        | (cases h1; done)
        | (cases h1; exact ⟨_, rfl, rfl⟩)
        | (obtain ⟨m, _, hq⟩ := Option.map_eq_some_iff.1 h1
           cases hq
           exact ⟨_, rfl, rfl⟩)
    split at h
    · rename_i v H1 h1
      obtain ⟨_, _, rfl⟩ := fin _ _ h1
      cases h
      refine ⟨rfl, v, rfl, fun μ w a K Q hl hK => ?_⟩
      obtain ⟨e1, e2⟩ := looks_ev ho hl
      obtain ⟨u, v', hu, _, q2, q3⟩ := inert_ok (μ := μ) (w := w) E hi e1 h1
      cases hu
      rw [if_pos (e2 ▸ hw)]
      unfold Oper.wp
      rw [q2]
      exact hK v' q3
    · rename_i H1 h1
      obtain ⟨_, hq, _⟩ := fin _ _ h1
      cases hq
    · rename_i f args H1 h1
      obtain ⟨_, hq, _⟩ := fin _ _ h1
      cases hq
    · cases h
  · rename_i hw
    cases h
    refine ⟨rfl, undef, rfl, fun μ w a K Q hl hK => ?_⟩
    obtain ⟨_, e2⟩ := looks_ev (μ := μ) ho hl
    rw [if_neg (by rw [← e2]; exact hw)]
    exact hK undef (VR.undef _)
/-! ### Rows of operations, in the order of the text -/
theorem wpList_ok (E : Env) (hE : EnvOk E) {call : Call} (hc : CallC E.P base call) {ops : Array Oper} {nt : Nat} {Q : Exit → Act → World → Prop} : ∀ (l : List Oper) (T T' : Tr Value) (H H' : Mem) (μ : Mp) (w : World) (a : Act),
    l.all (okOp nt) = true → evList E call ops l T H = some (T', H') → Rl base μ H w → ActR μ T a → a.tmps.size = nt →
    (∀ μ' a' w', Stp base μ H w μ' H' w' → ActR μ' T' a' → a'.tmps.size = nt → a'.defers = a.defers → Q .normal a' w') → wpList E.P ops Q l a w
  | [], T, T', H, H', μ, w, a, hok, h, R, A, hs, hQ => by cases h; exact hQ μ a w (.refl R) A hs rfl
  | o :: l, T, T', H, H', μ, w, a, hok, h, R, A, hs, hQ => by
    simp only [List.all_cons, Bool.and_eq_true, okOp] at hok
    obtain ⟨⟨hd, ho⟩, hok'⟩ := hok
    unfold evList at h
    split at h
    · rename_i T1 H1 h1
      obtain ⟨v, rfl, hst⟩ := stepOne_c E hE hc ho h1
      have hdst : ∀ t, o.dst = some t → t < a.tmps.size := fun t ht => by rw [ht] at hd; rw [hs]; simpa using hd
      have := hst μ w a (wpList E.P ops Q l) Q R (fun t _ => A.tm t) (fun μ' v' w' S hv =>
        wpList_ok E hE hc l _ _ _ _ μ' w' _ (by simpa [okOp] using hok') h S.rl ((A.mono S.ext).put hdst hv) (by rw [← hs]; cases o.dst <;> simp [Act.put]) (fun μ'' a'' w'' S' A' hs' hd' =>
          hQ μ'' a'' w'' (S.trans R S') A' hs' (hd'.trans (by cases o.dst <;> rfl))))
      unfold wpList
      split at this
      · rename_i hw; rw [if_pos hw]; exact .inl this
      · rename_i hw; rw [if_neg hw]; exact this
    · cases h
end
end Go.Proofs.YtmbofpmjckjceaaDoor.E
