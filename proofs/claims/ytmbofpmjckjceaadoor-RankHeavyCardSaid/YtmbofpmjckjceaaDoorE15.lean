/- The evaluator: more rounds change nothing; how a law begins and ends. No condition but those that are written out. -/
import Derived.Test.YtmbofpmjckjceaaDoorE14
import Derived.KernelRfl
namespace Go.Proofs.YtmbofpmjckjceaaDoor.E
open Go Go.RowKit
set_option linter.unusedVariables false
set_option linter.unusedSimpArgs false
/-! ### More rounds -/
def CallLe (c c' : Call) : Prop := ∀ f a H r, c f a H = some r → c' f a H = some r
section
variable {E : Env} {c c' : Call} {ops : Array Oper}
theorem stepOne_mono (h : CallLe c c') {o : Oper} {T : Tr Value} {H : Mem} {r : Tr Value × Mem} (hs : stepOne E c ops o T H = some r) : stepOne E c' ops o T H = some r := by
  unfold stepOne at hs ⊢
  by_cases hw : Region.wanted o (yieldT ops T) = true
  · rw [if_pos hw] at hs ⊢
    cases h1 : opStep E T H o with
    | none => rw [h1] at hs; cases hs
    | some p =>
      obtain ⟨re, H1⟩ := p
      rw [h1] at hs
      cases re with
      | val v => exact hs
      | skip => exact hs
      | enter f args =>
        simp only at hs ⊢
        cases h2 : c f args H1 with
        | none => rw [h2] at hs; cases hs
        | some q => rw [h2] at hs; rw [h _ _ _ _ h2]; exact hs
  · rw [if_neg hw] at hs ⊢
    exact hs
theorem evList_mono (h : CallLe c c') : ∀ (l : List Oper) (T : Tr Value) (H : Mem) (r : Tr Value × Mem), evList E c ops l T H = some r → evList E c' ops l T H = some r
  | [], T, H, r, hs => hs
  | o :: l, T, H, r, hs => by
    unfold evList at hs ⊢
    split at hs
    · rename_i T1 H1 h1; simp only [stepOne_mono h h1]; exact evList_mono h l _ _ _ hs
    · cases hs
theorem evDraw_mono (h : CallLe c c') : ∀ (l : List Oper) (k : Nat) (T : Tr Value) (H : Mem) (r : Tr Value × Mem), evDraw E c ops l k T H = some r → evDraw E c' ops l k T H = some r
  | [], k, T, H, r, hs => hs
  | o :: l, k, T, H, r, hs => by
    unfold evDraw at hs ⊢
    split at hs
    · rename_i T1 H1 h1
      simp only [stepOne_mono h h1]
      split at hs
      · rename_i hq; rw [if_pos hq]; exact evDraw_mono h l _ _ _ _ hs
      · cases hs
    · cases hs
theorem iter_mono {f f' : St → Option (Ex × St)} (h : ∀ s r, f s = some r → f' s = some r) : ∀ (n n' : Nat) (s : St) (r : Ex × St), n ≤ n' → iter f n s = some r → iter f' n' s = some r
  | 0, _, _, _, _, hs => by cases hs
  | n + 1, 0, _, _, hn, _ => by omega
  | n + 1, n' + 1, s, r, hn, hs => by
    unfold iter at hs ⊢
    split at hs
    · rename_i s' h1; simp only [h _ _ h1]; exact iter_mono h n n' _ _ (by omega) hs
    · rename_i q hne
      cases hf : f s with
      | none => rw [hf] at hs; cases hs
      | some p =>
        rw [hf] at hs
        cases hs
        simp only [h _ _ hf]
        obtain ⟨ex, s'⟩ := r
        cases ex with
        | norm => exact absurd hf (hne s')
        | exit id => rfl
        | ret => rfl
theorem evCode_mono (h : CallLe c c') {n n' : Nat} (hn : n ≤ n') : ∀ (cd : Code) (s : St) (r : Ex × St), evCode E c n cd s = some r → evCode E c' n' cd s = some r := by
  intro cd
  induction cd with
  | skip => intro s r hs; exact hs
  | region id ops draw =>
    intro s r hs
    simp only [evCode] at hs ⊢
    obtain ⟨p, hp, hq⟩ := Option.map_eq_some_iff.1 hs
    refine Option.map_eq_some_iff.2 ⟨p, ?_, hq⟩
    split at hp
    · rename_i hd; rw [if_pos hd]; exact evDraw_mono h _ _ _ _ _ hp
    · rename_i hd; rw [if_neg hd]; exact evList_mono h _ _ _ _ hp
  | seq x y ihx ihy =>
    intro s r hs
    simp only [evCode] at hs ⊢
    split at hs
    · rename_i s' h1; simp only [ihx _ _ h1]; exact ihy _ _ hs
    · rename_i hne
      have := ihx _ _ hs
      simp only [this]
      obtain ⟨ex, s'⟩ := r
      cases ex with
      | norm => exact absurd hs (hne s')
      | exit id => rfl
      | ret => rfl
  | cond q x y ihx ihy =>
    intro s r hs
    simp only [evCode] at hs ⊢
    split at hs
    · exact ihx _ _ hs
    · exact ihy _ _ hs
    · cases hs
  | block id b ih =>
    intro s r hs
    simp only [evCode] at hs ⊢
    split at hs
    · rename_i i s' h1; simp only [ih _ _ h1]; exact hs
    · rename_i hne
      have := ih _ _ hs
      simp only [this]
      obtain ⟨ex, s'⟩ := r
      cases ex with
      | norm => rfl
      | exit id => exact absurd hs (hne _ s')
      | ret => rfl
  | loop b ih => intro s r hs; simp only [evCode] at hs ⊢; exact iter_mono ih n n' _ _ hn hs
  | exit id => intro s r hs; exact hs
  | ret => intro s r hs; exact hs
  | rangeFunc => intro s r hs; simp [evCode] at hs
  | scope => intro s r hs; simp [evCode] at hs
  | label => intro s r hs; simp [evCode] at hs
  | goto => intro s r hs; simp [evCode] at hs
  | refuse => intro s r hs; simp [evCode] at hs
theorem evCall_mono (E : Env) : ∀ (n n' : Nat), n ≤ n' → CallLe (evCall E n) (evCall E n')
  | 0, _, _ => fun f a H r h => by simp [evCall] at h
  | n + 1, 0, hn => by omega
  | n + 1, n' + 1, hn => fun f a H r h => by
    have ih := evCall_mono E n n' (by omega)
    simp only [evCall] at h ⊢
    split at h
    · exact h
    · split at h
      · cases h
      · rename_i hb
        rw [if_neg hb]
        split at h
        · cases h
        · split at h
          · cases h
          · split at h
            · cases h
            · rename_i hnt
              rw [if_neg hnt]
              split at h
              · rename_i h1; simp only [evCode_mono ih (show n ≤ n' by omega) _ _ _ h1]; exact h
              · rename_i h1; simp only [evCode_mono ih (show n ≤ n' by omega) _ _ _ h1]; exact h
              · cases h
end
/-! ### How a law begins -/
def M0 : Mem := ⟨0, .nil, .nil, 0⟩
theorem WF.m0 : WF M0 := ⟨fun i o h => by simp [M0, Tr.get] at h, fun i b h => by simp [M0, Tr.get] at h, fun f _ => rfl⟩
theorem Rl.m0 (w : World) : Rl w.heap.size (fun _ => none) M0 w := ⟨WF.m0, Nat.le_refl _, (fun i m h => by cases h), (fun i m b h => by cases h), (fun i m es c h => by cases h), (fun i j mi mj h => by cases h)⟩
/-- A row that is only read. -/
def Mem.arg (H : Mem) (cs : List Value) (e : Nat) : Mem := { H with n := H.n + 1, obs := H.obs.set H.n (.blk ⟨cs, e, H.n, 0, true⟩) }
theorem Rl.arg {μ : Mp} {H : Mem} {w : World} (R : Rl w.heap.size μ H w) {cs cs' : List Value} {A : Addr} {cap e : Nat} (hA : A.block < w.heap.size) (hs : A.spot = none) (hl : cs.length ≤ cap * e) (hv : VRs μ cs cs')
    (hc : ∀ (j : Nat) v, cs'[j]? = some v → w.cell? (A.add j) = some v) (hap : ∀ i m, μ i = some m → owner H i = none) :
    Rl w.heap.size (upd μ H.n ⟨A, A.off + cap * e, e⟩) (H.arg cs e) w ∧ (∀ i m, upd μ H.n ⟨A, A.off + cap * e, e⟩ i = some m → owner (H.arg cs e) i = none) ∧ Ext μ (upd μ H.n ⟨A, A.off + cap * e, e⟩) := by
  have hx := R.ext_upd ⟨A, A.off + cap * e, e⟩
  have hget : ∀ i, (H.arg cs e).obs.get i = if H.n = i then some (.blk ⟨cs, e, H.n, 0, true⟩) else H.obs.get i := fun i => Tr.get_set _ _ _ _
  have how : ∀ i m, upd μ H.n ⟨A, A.off + cap * e, e⟩ i = some m → owner (H.arg cs e) i = none := fun i m h => by
    by_cases hi : i = H.n
    · subst hi
      have := hget H.n
      rw [if_pos rfl] at this
      rw [owner_blk this]; rfl
    · rw [upd_ne μ _ hi] at h
      have := hget i
      rw [if_neg (Ne.symm hi)] at this
      rw [owner_of this]
      exact hap i m h
  refine ⟨⟨⟨fun i o h => ?_, fun i b h hr => ?_, fun f h => R.wf.gen f (Nat.le_of_succ_le h)⟩, Nat.le_refl _, fun i m h => ?_, fun i m b h ho => ?_, fun i m es c h ho => ?_, fun i j mi mj hi hj _ => by rw [how i mi hi, how j mj hj]⟩, how, hx⟩
  · rw [hget] at h
    show i < H.n + 1
    split at h
    · omega
    · have := R.wf.lt i o h; omega
  · rw [hget] at h
    split at h
    · cases h; simp at hr
    · obtain ⟨x1, x2, x3, x4⟩ := R.wf.fam i b h hr
      refine ⟨x1, x2, x3, fun he => ?_⟩
      obtain ⟨b', hb', y⟩ := x4 he
      exact ⟨b', by rw [hget, if_neg (by have := R.wf.lt _ _ hb'; omega)]; exact hb', y⟩
  · by_cases hi : i = H.n
    · subst hi; exact ⟨_, (hget _).trans (if_pos rfl)⟩
    · rw [upd_ne μ _ hi] at h
      obtain ⟨o, ho⟩ := R.has i m h
      exact ⟨o, by rw [hget, if_neg (Ne.symm hi)]; exact ho⟩
  · by_cases hi : i = H.n
    · subst hi
      rw [upd_same] at h; cases h
      rw [hget, if_pos rfl] at ho; cases ho
      refine ⟨hs, rfl, by simp; omega, fun _ => hA, fun h => by simp at h, fun _ j v hj => ?_⟩
      have hjl : j < cs'.length := by rw [← hv.1]; exact (List.getElem?_eq_some_iff.1 hj).1
      refine ⟨cs'[j], ?_, (hv.2 j v _ hj (List.getElem?_eq_getElem hjl)).mono hx⟩
      have := hc j _ (List.getElem?_eq_getElem hjl)
      obtain ⟨b, o, s⟩ := A
      simp at hs
      subst hs
      rw [Addr.add_lit] at this
      exact this
    · rw [upd_ne μ _ hi] at h
      rw [hget, if_neg (Ne.symm hi)] at ho
      exact (R.row i m b h ho).keep hx (fun x => x) rfl
  · by_cases hi : i = H.n
    · subst hi; rw [hget, if_pos rfl] at ho; cases ho
    · rw [upd_ne μ _ hi] at h
      rw [hget, if_neg (Ne.symm hi)] at ho
      exact (R.map i m es c h ho).keep hx rfl
/-- What is shown of a law is what its row asks for. -/
theorem law_calls {E : Env} (S : ∀ base, Sound E base) {W : World} {n : Nat} {f : FuncId} {args args' : Array Value} {μ : Mp} {H H' : Mem} {v : Value} (h : evCall E n f args H = some (v, H')) (hf : flat depth v = true)
    (R : Rl W.heap.size μ H W) (hap : ∀ i m, μ i = some m → owner H i = none) (ha : VRa μ args args') : Calls E.P f args' W (fun e w' => e = .returned v ∧ Below W.heap.size W w') := by
  refine (evCall_ok (S W.heap.size) n f args H v H' h μ W args' R ha).mono fun e w' => ?_
  rintro ⟨μ', v', rfl, K, hv⟩
  exact ⟨by rw [flat_eq depth hf hv], ⟨K.os, K.tape, K.out, K.size, fun B hB => K.foot B hB fun i m hm _ f hf => by rw [hap i m hm] at hf; cases hf⟩⟩
/-- The looks at a program that the evaluator wants, in one. -/
def progOk (P : Program) (bad : FuncId → Bool) : Bool :=
  P.funcs.toList.zipIdx.all fun p => (match p.1.body with | some c => (bad p.2 || okCode p.1.ntmps c) && !(p.1.name == "runtime.NumGoroutine") | none => true)
theorem progOk_spec {P : Program} {bad : FuncId → Bool} (h : progOk P bad = true) : (∀ (f : FuncId) (fn : Func) (c : Code), bad f = false → P.funcs[f]? = some fn → fn.body = some c → okCode fn.ntmps c = true) ∧
    ∀ (f : FuncId) (fn : Func), P.funcs[f]? = some fn → fn.body.isSome = true → (fn.name == "runtime.NumGoroutine") = false := by
  unfold progOk at h
  rw [List.all_eq_true] at h
  have get : ∀ (f : FuncId) (fn : Func) (c : Code), P.funcs[f]? = some fn → fn.body = some c → (bad f || okCode fn.ntmps c) && !(fn.name == "runtime.NumGoroutine") := fun f fn c hf hb => by
    have hz : (fn, f) ∈ P.funcs.toList.zipIdx := by
      rw [List.mem_zipIdx_iff_getElem?]
      simpa using hf
    have := h _ hz
    simpa [hb] using this
  refine ⟨fun f fn c hb hf hc => ?_, fun f fn hf hs => ?_⟩
  · have := get f fn c hf hc
    simp only [Bool.and_eq_true, hb, Bool.false_or] at this
    exact this.1
  · obtain ⟨c, hc⟩ := Option.isSome_iff_exists.1 hs
    have := get f fn c hf hc
    simp only [Bool.and_eq_true] at this
    simpa using this.2
end Go.Proofs.YtmbofpmjckjceaaDoor.E
