/- What the evaluator yields, the program yields. No condition but those that are written out. -/
import Derived.Test.YtmbofpmjckjceaaDoorE13
namespace Go.Proofs.YtmbofpmjckjceaaDoor.E
open Go Go.RowKit
set_option linter.unusedVariables false
set_option linter.unusedSimpArgs false
section
variable {E : Env} {call : Call} {ops : Array Oper} {base nt : Nat}
theorem draw_any {Ts : Nat → Tr Value} {Hs H1s : Nat → Mem} {μ0 : Mp} {w0 : World} {ds : List Deferred} {Q : Exit → Act → World → Prop} (hE : EnvOk E) (hc : CallC E.P base call) (ha : CallA call) (r : Run E call ops Ts Hs H1s) (R0 : Rl base μ0 (Hs 0) w0) (W : WF (Hs 0)) (hD : DrawOk ops) (hok : ops.toList.all (okOp nt) = true)
    (hQ : ∀ μ' a' w', Stp base μ0 (Hs 0) w0 μ' (Hs ops.size) w' → ActR μ' (Ts ops.size) a' → a'.tmps.size = nt → a'.defers = ds → Q .normal a' w') :
    ∀ (fuel : Nat) (listed : Array Bool) (a : Act) (w : World) (μ : Mp), Inv ops Ts Hs H1s base nt ds μ0 w0 listed a w μ → ((List.range ops.size).filter fun i => !listed.getD i false).length ≤ fuel → wpAny E.P .any ops Q fuel listed a w := by
  -- when all are listed
  have fin : ∀ (listed : Array Bool) (a : Act) (w : World) (μ : Mp), Inv ops Ts Hs H1s base nt ds μ0 w0 listed a w μ → (∀ i, i < ops.size → listed.getD i false = true) → Q .normal a w := by
    intro listed a w μ I hall
    have hids : ∀ i m, μ i = some m → i < (Hs ops.size).n := fun i m h => (I.ids i m h).1
    have hR := I.mem ops.size (Nat.le_refl _) (fun b hb _ => by simp [hb, hall b hb])
    rw [cut_all hids] at hR
    have S0 := r.le ha W (Nat.zero_le ops.size) (Nat.le_refl _)
    refine hQ μ a w ⟨hR, I.ext, I.new, S0.n, S0.own W, S0.obs, S0.gens, S0.low, I.foot, I.os, I.tape, I.out, I.size⟩ ⟨fun t => ?_⟩ I.asz I.defers
    have := I.tmp t ops.size (Nat.le_refl _) (fun i hi _ => hall i hi) (fun i hi hw => by obtain ⟨o, ho, _⟩ := hw; have := (Array.getElem?_eq_some_iff.1 ho).1; omega)
    rw [cut_all hids] at this
    exact this
  -- where one is not listed one is ready
  have some_ready : ∀ (listed : Array Bool) (a : Act) (w : World) (μ : Mp), Inv ops Ts Hs H1s base nt ds μ0 w0 listed a w μ → ∀ i, i < ops.size → listed.getD i false = false → Region.ready .any ops listed ≠ [] := by
    intro listed a w μ I i
    induction i using Nat.strongRecOn with
    | _ i ih =>
      intro hi hu hnil
      by_cases hex : ∃ j, j < i ∧ listed.getD j false = false
      · obtain ⟨j, hj, huj⟩ := hex
        exact ih j hj (by omega) huj hnil
      · have hmem : i ∈ Region.ready .any ops listed := by
          refine mem_ready.2 ⟨?_, ops[i], Array.getElem?_eq_getElem hi, fun e he hb => ?_⟩
          · have hl : i < listed.size := by rw [I.lsz]; exact hi
            simp only [Array.getD_eq_getD_getElem?, Array.getElem?_eq_getElem hl, Option.getD_some] at hu ⊢
            exact hu
          · have hlt := hD.back _ _ (Anc.one (Array.getElem?_eq_getElem hi) he hb)
            cases hq : listed.getD e.on false with
            | true => rfl
            | false => exact absurd ⟨_, hlt, hq⟩ hex
        rw [hnil] at hmem
        cases hmem
  have empty_all : ∀ (listed : Array Bool) (a : Act) (w : World) (μ : Mp), Inv ops Ts Hs H1s base nt ds μ0 w0 listed a w μ → Region.ready .any ops listed = [] → ∀ i, i < ops.size → listed.getD i false = true := by
    intro listed a w μ I hnil i hi
    cases hq : listed.getD i false with
    | true => rfl
    | false => exact absurd hnil (some_ready listed a w μ I i hi hq)
  intro fuel
  induction fuel with
  | zero =>
    intro listed a w μ I hn
    have hall : ∀ i, i < ops.size → listed.getD i false = true := fun i hi => by
      cases hq : listed.getD i false with
      | true => rfl
      | false =>
        have hm : i ∈ (List.range ops.size).filter fun i => !listed.getD i false := List.mem_filter.2 ⟨List.mem_range.2 hi, by rw [hq]; rfl⟩
        have h0 := List.length_pos_of_mem hm
        omega
    refine ⟨?_, fin _ _ _ _ I hall⟩
    cases hr : Region.ready .any ops listed with
    | nil => rfl
    | cons j l =>
      exfalso
      have hj : j ∈ Region.ready .any ops listed := by rw [hr]; exact .head _
      obtain ⟨h0, o, ho, _⟩ := mem_ready.1 hj
      have hjs := (Array.getElem?_eq_some_iff.1 ho).1
      have h1 := hall j hjs
      have hl : j < listed.size := by rw [I.lsz]; exact hjs
      simp only [Array.getD_eq_getD_getElem?, Array.getElem?_eq_getElem hl, Option.getD_some] at h0 h1
      rw [h0] at h1
      cases h1
  | succ fuel ih =>
    intro listed a w μ I hn
    refine ⟨fun hnil => fin _ _ _ _ I (empty_all _ _ _ _ I hnil), fun k hk => ?_⟩
    refine wpOp_mono (fun a' w' h => ?_) (I.step hE hc ha r R0 W hD hok hk Q)
    obtain ⟨μ', I'⟩ := h
    refine ih _ _ _ _ I' ?_
    obtain ⟨h0, o, ho, _⟩ := mem_ready.1 hk
    have hks := (Array.getElem?_eq_some_iff.1 ho).1
    have hkl : k < listed.size := by rw [I.lsz]; exact hks
    have hku : listed.getD k false = false := by
      simp only [Array.getD_eq_getD_getElem?, Array.getElem?_eq_getElem hkl, Option.getD_some] at h0 ⊢
      exact h0
    have hnd : ((List.range ops.size).filter fun i => !listed.getD i false).Nodup := List.nodup_range.filter _
    have hmem : k ∈ (List.range ops.size).filter fun i => !listed.getD i false := List.mem_filter.2 ⟨List.mem_range.2 hks, by rw [hku]; rfl⟩
    have he : (List.range ops.size).filter (fun i => !(listed.setIfInBounds k true).getD i false) = ((List.range ops.size).filter fun i => !listed.getD i false).erase k := by
      rw [hnd.erase_eq_filter, List.filter_filter]
      apply List.filter_congr
      intro i _
      rw [setD hkl]
      by_cases e : i = k
      · subst e; simp
      · simp [e]
    rw [he, List.length_erase_of_mem hmem]
    omega
theorem region_draw_ok {T T' : Tr Value} {H H' : Mem} {μ : Mp} {w : World} {a : Act} {id : Nat} {Q : Exit → Act → World → Prop} (hE : EnvOk E) (hm : E.P.follows .mixedOrders = true) (hc : CallC E.P base call) (ha : CallA call) (hok : ops.toList.all (okOp nt) = true) (hD : drawOk ops = true)
    (h : evDraw E call ops ops.toList 0 T H = some (T', H')) (R : Rl base μ H w) (A : ActR μ T a) (hs : a.tmps.size = nt)
    (hQ : ∀ μ' a' w', Stp base μ H w μ' H' w' → ActR μ' T' a' → a'.tmps.size = nt → a'.defers = a.defers → Q .normal a' w') : (Code.region id ops true).wp E.P Q a w := by
  obtain ⟨Ts, Hs, H1s, rfl, rfl, h3, h4, h5, h6, h7⟩ := run_of E call ops ops.toList 0 _ _ _ _ rfl h
  simp only [Array.length_toList, Nat.zero_add] at h3 h4
  subst h3; subst h4
  have r : Run E call ops Ts Hs H1s := ⟨fun k o => h5 k o (Nat.zero_le _), fun k => h6 k (Nat.zero_le _), fun k => h7 k (Nat.zero_le _)⟩
  have W := R.wf
  refine wp_region_any hm ?_
  have R' : Rl base μ (Hs 0) w.drew := R.heap rfl
  have hlf : ∀ i, (Array.replicate ops.size false).getD i false = false := fun i => by
    rw [Array.getD_eq_getD_getElem?]
    cases hq : (Array.replicate ops.size false)[i]? with
    | none => rfl
    | some b => obtain ⟨hi, hb⟩ := Array.getElem?_eq_some_iff.1 hq; simp at hb; simp [← hb]
  refine draw_any (w0 := w.drew) (μ0 := μ) hE hc ha r R' W (drawOk_spec hD) hok (fun μ' a' w' S A' hs' hd' => hQ μ' a' w' (R.drew.trans R S) A' hs' hd') ops.size _ a w.drew μ ?_ ?_
  · refine ⟨by simp, hs, rfl, (fun j o e hj => by rw [hlf] at hj; cases hj), .refl μ, fun i m hmi => ?_, fun k hk hcut => ?_, fun t k hk h1 h2 => ?_, (fun i m h h' => by rw [h] at h'; cases h'), (fun _ _ _ => rfl), rfl, rfl, rfl, Nat.le_refl _⟩
    · have hi := R.lt hmi
      have hn := (r.le ha W (Nat.zero_le ops.size) (Nat.le_refl _)).n
      refine ⟨by omega, fun k hk h1 h2 => ?_⟩
      have := (r.le ha W (Nat.zero_le k) (by omega)).n
      omega
    · have hnb : ∀ b, 0 ≤ b → b < 0 + k → ¬ isBar ops Hs H1s b := fun b _ hb hbar => by
        have := (hcut b (by omega) hbar).1 (by omega)
        rw [hlf] at this
        cases this
      obtain ⟨g1, g2⟩ := r.agree ha W hok 0 k (by omega) hnb
      rw [Nat.zero_add] at g1 g2
      have hn := (r.le ha W (Nat.zero_le k) hk).n
      rw [cut_all (fun i m h => by have := R.lt h; omega)]
      exact R'.agree (r.wf ha W k hk) hn g1 g2
    · have hn := (r.le ha W (Nat.zero_le k) hk).n
      rw [cut_all (fun i m h => by have := R.lt h; omega)]
      have := r.ts ha W 0 t k (by omega) (fun i _ hi hw => by have := h1 i (by omega) hw; rw [hlf] at this; cases this)
      rw [Nat.zero_add] at this
      rw [this]
      exact A.tm t
  · exact Nat.le_trans (List.length_filter_le _ _) (by simp)
/-! ### Code -/
def okCode (nt : Nat) : Code → Bool
  | .region _ ops draw => ops.toList.all (okOp nt) && (!draw || drawOk ops)
  | .seq a b => okCode nt a && okCode nt b
  | .cond c a b => okO c && okCode nt a && okCode nt b
  | .block _ b => okCode nt b
  | .loop b => okCode nt b
  | _ => true
def Ex.exit' : Ex → Exit
  | .norm => .normal
  | .exit id => .exit id
  | .ret => .ret
/-- A loop that has come round. -/
def LoopW (P : Program) (c : Code) (Q : Exit → Act → World → Prop) (a : Act) (w : World) : Prop :=
  ∀ (b : Frame) (k : List Item) (cs : List Frame), ∃ e a' w', Q e a' w' ∧ Arrives P (lone (b.at a (.inLoop c :: k)) cs w) b k cs e a' w'
theorem loop_unroll {P : Program} {c : Code} {Q : Exit → Act → World → Prop} {a : Act} {w : World} (h : c.wp P (Exit.then (LoopW P c Q) Q) a w) : (Code.loop c).wp P Q a w ∧ LoopW P c Q a w := by
  have key : ∀ (b : Frame) (k : List Item) (cs : List Frame), ∃ e a' w', Q e a' w' ∧ Arrives P (lone (b.at a (.code c :: .inLoop c :: k)) cs w) b k cs e a' w' := by
    intro b k cs
    obtain ⟨e, a₁, w₁, hq, harr⟩ := h b (.inLoop c :: k) cs
    cases e with
    | normal =>
      obtain ⟨e₂, a₂, w₂, hq₂, harr₂⟩ := hq b k cs
      exact ⟨e₂, a₂, w₂, hq₂, .of_steps harr harr₂⟩
    | exit id => exact ⟨_, a₁, w₁, hq, .pass (x := .inLoop c) rfl (fun _ _ => .inl (by simp)) harr⟩
    | goto l => exact ⟨_, a₁, w₁, hq, .pass (x := .inLoop c) rfl (fun _ _ => .inl (by simp)) harr⟩
    | ret => exact ⟨_, a₁, w₁, hq, .pass (x := .inLoop c) rfl (fun _ _ => .inl (by simp)) harr⟩
    | panic ch => exact ⟨_, a₁, w₁, hq, .pass (x := .inLoop c) rfl (fun _ _ => .inl (by simp)) harr⟩
    | outgrown => exact ⟨_, a₁, w₁, hq, .pass (x := .inLoop c) rfl (fun _ _ => .inl (by simp)) harr⟩
  exact ⟨fun b k cs => let ⟨e, a', w', q, r⟩ := key b k cs; ⟨e, a', w', q, .of_steps (.one step_loop) r⟩,
    fun b k cs => let ⟨e, a', w', q, r⟩ := key b k cs; ⟨e, a', w', q, .of_steps (.one step_inLoop) r⟩⟩
theorem iter_ok {c : Code} {f : St → Option (Ex × St)} {Q : Exit → Act → World → Prop} {ex : Ex} {T' : Tr Value} {H' : Mem}
    (hf : ∀ T H ex1 T1 H1, f (T, H) = some (ex1, T1, H1) → ∀ μ w a Q', Rl base μ H w → ActR μ T a → a.tmps.size = nt →
      (∀ μ' a' w', Stp base μ H w μ' H1 w' → ActR μ' T1 a' → a'.tmps.size = nt → a'.defers = a.defers → Q' ex1.exit' a' w') → c.wp E.P Q' a w) :
    ∀ (n : Nat) (T : Tr Value) (H : Mem) (μ : Mp) (w : World) (a : Act), iter f n (T, H) = some (ex, T', H') → Rl base μ H w → ActR μ T a → a.tmps.size = nt →
      (∀ μ' a' w', Stp base μ H w μ' H' w' → ActR μ' T' a' → a'.tmps.size = nt → a'.defers = a.defers → Q ex.exit' a' w') → (Code.loop c).wp E.P Q a w ∧ LoopW E.P c Q a w
  | 0, T, H, μ, w, a, h, R, A, hs, hQ => by cases h
  | n + 1, T, H, μ, w, a, h, R, A, hs, hQ => by
    unfold iter at h
    split at h
    · rename_i s' h1
      obtain ⟨T1, H1⟩ := s'
      refine loop_unroll (hf _ _ _ _ _ h1 μ w a _ R A hs fun μ' a' w' S A' hs' hd' => ?_)
      exact (iter_ok hf n T1 H1 μ' w' a' h S.rl A' hs' fun μ'' a'' w'' S' A'' hs'' hd'' => hQ μ'' a'' w'' (S.trans R S') A'' hs'' (hd''.trans hd')).2
    · rename_i r hne
      refine loop_unroll (hf _ _ _ _ _ h μ w a _ R A hs fun μ' a' w' S A' hs' hd' => ?_)
      cases ex with
      | norm => exact absurd h (fun h => hne _ h)
      | exit id => exact hQ μ' a' w' S A' hs' hd'
      | ret => exact hQ μ' a' w' S A' hs' hd'
theorem code_ok (hE : EnvOk E) (hm : E.P.follows .mixedOrders = true) (hc : CallC E.P base call) (ha : CallA call) (n : Nat) : ∀ (c : Code), okCode nt c = true → ∀ (T T' : Tr Value) (H H' : Mem) (ex : Ex), evCode E call n c (T, H) = some (ex, T', H') →
    ∀ (μ : Mp) (w : World) (a : Act) (Q : Exit → Act → World → Prop), Rl base μ H w → ActR μ T a → a.tmps.size = nt →
      (∀ μ' a' w', Stp base μ H w μ' H' w' → ActR μ' T' a' → a'.tmps.size = nt → a'.defers = a.defers → Q ex.exit' a' w') → c.wp E.P Q a w := by
  intro c
  induction c with
  | skip => intro hok T T' H H' ex h μ w a Q R A hs hQ; simp only [evCode] at h; cases h; exact wp_skip (hQ μ a w (.refl R) A hs rfl)
  | region id ops draw =>
    intro hok T T' H H' ex h μ w a Q R A hs hQ
    simp only [okCode, Bool.and_eq_true] at hok
    simp only [evCode] at h
    obtain ⟨⟨T1, H1⟩, hm', hq⟩ := Option.map_eq_some_iff.1 h
    cases hq
    cases draw with
    | true =>
      rw [if_pos rfl] at hm'
      exact region_draw_ok hE hm hc ha hok.1 (by simpa using hok.2) hm' R A hs hQ
    | false =>
      rw [if_neg (by simp)] at hm'
      exact wp_region_list (wpList_ok E hE hc _ _ _ _ _ μ w a hok.1 hm' R A hs hQ)
  | seq x y ihx ihy =>
    intro hok T T' H H' ex h μ w a Q R A hs hQ
    simp only [okCode, Bool.and_eq_true] at hok
    simp only [evCode] at h
    refine wp_seq ?_
    split at h
    · rename_i s' h1
      obtain ⟨T1, H1⟩ := s'
      exact ihx hok.1 _ _ _ _ _ h1 μ w a _ R A hs fun μ' a' w' S A' hs' hd' =>
        ihy hok.2 _ _ _ _ _ h μ' w' a' Q S.rl A' hs' fun μ'' a'' w'' S' A'' hs'' hd'' => hQ μ'' a'' w'' (S.trans R S') A'' hs'' (hd''.trans hd')
    · rename_i r hne
      refine ihx hok.1 _ _ _ _ _ h μ w a _ R A hs fun μ' a' w' S A' hs' hd' => ?_
      cases ex with
      | norm => exact absurd h (fun h => hne _ h)
      | exit id => exact hQ μ' a' w' S A' hs' hd'
      | ret => exact hQ μ' a' w' S A' hs' hd'
  | cond c x y ihx ihy =>
    intro hok T T' H H' ex h μ w a Q R A hs hQ
    simp only [okCode, Bool.and_eq_true] at hok
    simp only [evCode] at h
    have hv := evalO_ok A hok.1.1
    split at h
    · rename_i he
      rw [he] at hv
      exact wp_cond_true hv.bool' (ihx hok.1.2 _ _ _ _ _ h μ w a Q R A hs hQ)
    · rename_i he
      rw [he] at hv
      exact wp_cond_false hv.bool' (ihy hok.2 _ _ _ _ _ h μ w a Q R A hs hQ)
    · cases h
  | block id b ih =>
    intro hok T T' H H' ex h μ w a Q R A hs hQ
    simp only [okCode] at hok
    simp only [evCode] at h
    refine wp_block ?_
    split at h
    · rename_i i s' h1
      obtain ⟨T1, H1⟩ := s'
      refine ih hok _ _ _ _ _ h1 μ w a _ R A hs fun μ' a' w' S A' hs' hd' => ?_
      simp only [Ex.exit', Exit.inBlock]
      split at h
      · rename_i e; rw [if_pos e]; cases h; exact hQ μ' a' w' S A' hs' hd'
      · rename_i e; rw [if_neg e]; cases h; exact hQ μ' a' w' S A' hs' hd'
    · rename_i r hne
      refine ih hok _ _ _ _ _ h μ w a _ R A hs fun μ' a' w' S A' hs' hd' => ?_
      cases ex with
      | norm => exact hQ μ' a' w' S A' hs' hd'
      | exit id => exact absurd h (fun h => hne _ _ h)
      | ret => exact hQ μ' a' w' S A' hs' hd'
  | loop b ih =>
    intro hok T T' H H' ex h μ w a Q R A hs hQ
    simp only [okCode] at hok
    simp only [evCode] at h
    exact (iter_ok (fun T H ex1 T1 H1 h1 μ w a Q' => ih hok T T1 H H1 ex1 h1 μ w a Q') n T H μ w a h R A hs hQ).1
  | exit id => intro hok T T' H H' ex h μ w a Q R A hs hQ; simp only [evCode] at h; cases h; exact wp_exit (hQ μ a w (.refl R) A hs rfl)
  | ret => intro hok T T' H H' ex h μ w a Q R A hs hQ; simp only [evCode] at h; cases h; exact wp_ret (hQ μ a w (.refl R) A hs rfl)
  | rangeFunc => intro hok T T' H H' ex h; simp [evCode] at h
  | scope => intro hok T T' H H' ex h; simp [evCode] at h
  | label => intro hok T T' H H' ex h; simp [evCode] at h
  | goto => intro hok T T' H H' ex h; simp [evCode] at h
  | refuse => intro hok T T' H H' ex h; simp [evCode] at h
/-! ### Calls -/
theorem initT_get : ∀ (vs : List Value) (k : Nat) (T : Tr Value) (t : Nat), (initT k vs T).get t = if k ≤ t ∧ t < k + vs.length then vs[t - k]? else T.get t
  | [], k, T, t => by simp only [initT, List.length_nil, Nat.add_zero]; rw [if_neg (by omega)]
  | v :: vs, k, T, t => by
    simp only [initT, initT_get vs (k + 1) _ t, List.length_cons]
    by_cases h1 : k + 1 ≤ t ∧ t < k + 1 + vs.length
    · rw [if_pos h1, if_pos (by omega)]
      obtain ⟨d, hd⟩ : ∃ d, t - k = d + 1 := ⟨t - k - 1, by omega⟩
      rw [hd, List.getElem?_cons_succ]
      congr 1; omega
    · rw [if_neg h1, Tr.get_set]
      by_cases h2 : k = t
      · subst h2; rw [if_pos rfl, if_pos (by omega)]; simp
      · rw [if_neg h2, if_neg (by omega)]
theorem init_ok {μ : Mp} {args args' : Array Value} {n : Nat} (h : VRa μ args args') : ActR μ (initT 0 args.toList .nil) { tmps := args' ++ Array.replicate n undef, defers := [] } := by
  refine ⟨fun t => ?_⟩
  rw [initT_get]
  simp only [Array.getD_eq_getD_getElem?, Array.getElem?_append]
  by_cases ht : t < args.size
  · rw [if_pos (by simpa using ht), if_pos (by rw [← h.size]; exact ht)]
    have h1 : args.toList[t - 0]? = some args[t] := by simp [ht]
    have h2 : args'[t]? = some (args'[t]'(by rw [← h.size]; exact ht)) := Array.getElem?_eq_getElem _
    rw [h1, h2]
    exact h.at t _ _ (Array.getElem?_eq_getElem ht) h2
  · rw [if_neg (by simpa using ht), if_neg (by rw [← h.size]; exact ht)]
    have : (Array.replicate n undef)[t - args'.size]?.getD undef = undef := by
      cases hq : (Array.replicate n undef)[t - args'.size]? with
      | none => rfl
      | some v => obtain ⟨hi, hb⟩ := Array.getElem?_eq_some_iff.1 hq; simp at hb; simp [← hb]
    rw [this]
    exact VR.undef _
theorem results_ok {μ : Mp} {H : Mem} {w : World} {T : Tr Value} {a : Act} {fn : Func} {v : Value} (R : Rl base μ H w) (A : ActR μ T a) (h : ressV E.P T H fn.results.toList = some v) : ∃ v', (results fn a.tmps).run E.P w = .ok v' w ∧ VR μ v v' := by
  have one : ∀ (rv : ResultVar) v, resV E.P T H rv = some v → ∃ v', ((match rv with | .tmp t => pure (a.tmps.getD t undef) | .cell q t => do loadVar t (← asAddr (a.tmps.getD q undef)) : Sem Value)).run E.P w = .ok v' w ∧ VR μ v v' := by
    intro rv v hv
    cases rv with
    | tmp t => simp [resV] at hv; subst hv; exact ⟨_, rfl, A.tm t⟩
    | cell q t =>
      simp only [resV] at hv
      split at hv
      · rename_i ad he
        have hq := A.tm q
        rw [he] at hq
        obtain ⟨hs, m, hm, he'⟩ := hq.ptr_some
        obtain ⟨v', h1, h2⟩ := loadV_ok (P := E.P) R hm hv
        refine ⟨v', ?_, h2⟩
        show (asAddr (a.tmps.getD q undef) >>= fun x => loadVar t x).run E.P w = _
        rw [he', Sem.run_bind]
        exact h1
      · cases hv
  have many : ∀ (rs : List ResultVar) vs, rs.mapM (resV E.P T H) = some vs → ∃ vs', (rs.mapM (fun rv => match rv with | .tmp t => pure (a.tmps.getD t undef) | .cell q t => do loadVar t (← asAddr (a.tmps.getD q undef)) : ResultVar → Sem Value)).run E.P w = .ok vs' w ∧ VRs μ vs vs' := by
    intro rs
    induction rs with
    | nil => intro vs h; simp at h; subst h; exact ⟨[], rfl, .nil μ⟩
    | cons r rs ih =>
      intro vs h
      rw [List.mapM_cons] at h
      cases h1 : resV E.P T H r with
      | none => simp [h1] at h
      | some v =>
        cases h2 : rs.mapM (resV E.P T H) with
        | none => simp [h1, h2] at h
        | some vs1 =>
          simp [h1, h2] at h
          subst h
          obtain ⟨v', g1, g2⟩ := one r v h1
          obtain ⟨vs', k1, k2⟩ := ih vs1 h2
          refine ⟨v' :: vs', ?_, .cons g2 k2⟩
          rw [List.mapM_cons, Sem.run_bind, g1, Result.andThen_ok, Sem.run_bind, k1]
          rfl
  unfold ressV at h
  have run : ∀ vs', (fn.results.toList.mapM (fun rv => match rv with | .tmp t => pure (a.tmps.getD t undef) | .cell q t => do loadVar t (← asAddr (a.tmps.getD q undef)) : ResultVar → Sem Value)).run E.P w = .ok vs' w →
      (results fn a.tmps).run E.P w = .ok (if h : vs'.toArray.size = 1 then vs'.toArray[0] else .tuple vs'.toArray) w := by
    intro vs' h
    have e : results fn a.tmps = (do
        let vs ← fn.results.mapM (fun rv => match rv with | .tmp t => pure (a.tmps.getD t undef) | .cell q t => do loadVar t (← asAddr (a.tmps.getD q undef)) : ResultVar → Sem Value)
        pure (if h : vs.size = 1 then vs[0] else .tuple vs)) := rfl
    rw [e, Sem.run_bind, Array.mapM_eq_mapM_toList, Sem.run_map, h]
    rfl
  split at h
  · rename_i u hu
    cases h
    obtain ⟨vs', k1, k2⟩ := many _ _ hu
    obtain ⟨v', vs2, rfl, hv, ht⟩ := k2.of_cons
    rw [ht.of_nil] at k1
    exact ⟨v', by rw [run _ k1]; simp, hv⟩
  · rename_i vs hne hu
    cases h
    obtain ⟨vs', k1, k2⟩ := many _ _ hu
    have hl : vs'.toArray.size ≠ 1 := fun e => by
      have : vs.length = 1 := by rw [k2.1]; simpa using e
      obtain ⟨x, rfl⟩ := List.length_eq_one_iff.1 this
      exact hne x rfl
    exact ⟨_, by rw [run _ k1, dif_neg hl], .tuple' k2⟩
  · cases h
/-- What a program must show so that the evaluator speaks of it. -/
structure Sound (E : Env) (base : Nat) : Prop where
  env : EnvOk E
  mixed : E.P.follows .mixedOrders = true
  code : ∀ (f : FuncId) (fn : Func) (c : Code), E.bad f = false → E.P.funcs[f]? = some fn → fn.body = some c → okCode fn.ntmps c = true
  ia : ∀ f g, E.I f = some g → ∀ args H v H', g args H = some (v, H') → WF H → AStp H H'
  ic : ∀ f g, E.I f = some g → ∀ args H v H', g args H = some (v, H') → ∀ μ w args', Rl base μ H w → VRa μ args args' →
    Calls E.P f args' w (fun e w' => ∃ μ' v', e = .returned v' ∧ Stp base μ H w μ' H' w' ∧ VR μ' v v')
theorem evCall_ok (S : Sound E base) : ∀ n, CallC E.P base (evCall E n)
  | 0 => fun f args H v H' h => by simp [evCall] at h
  | n + 1 => fun f args H v H' h μ w args' R hargs => by
    have ih := evCall_ok S n
    simp only [evCall] at h
    split at h
    · rename_i g hg
      exact S.ic f g hg _ _ _ _ h μ w args' R hargs
    · split at h
      · cases h
      · rename_i hbad
        split at h
        · cases h
        · rename_i fn hfn
          split at h
          · cases h
          · rename_i c hbody
            split at h
            · cases h
            · rename_i hnt
              have hok := S.code f fn c (by simpa using hbad) hfn hbody
              have hsz : (args' ++ Array.replicate (fn.ntmps - args'.size) undef).size = fn.ntmps := by rw [hargs.size] at hnt; simp; omega
              split at h
              · rename_i T1 H1 h1
                obtain ⟨v1, hv1, hq⟩ := Option.map_eq_some_iff.1 h
                cases hq
                refine calls_of_wp hfn hbody (code_ok S.env S.mixed ih (evCall_a E S.ia n) n c hok _ _ _ _ _ h1 μ w _ _ R (init_ok hargs) hsz fun μ' a' w' S' A' hs' hd' => ?_)
                obtain ⟨v', g1, g2⟩ := results_ok (E := E) (fn := fn) S'.rl A' hv1
                exact ⟨hd', v', g1, μ', v', rfl, S', g2⟩
              · rename_i T1 H1 h1
                obtain ⟨v1, hv1, hq⟩ := Option.map_eq_some_iff.1 h
                cases hq
                refine calls_of_wp hfn hbody (code_ok S.env S.mixed ih (evCall_a E S.ia n) n c hok _ _ _ _ _ h1 μ w _ _ R (init_ok hargs) hsz fun μ' a' w' S' A' hs' hd' => ?_)
                obtain ⟨v', g1, g2⟩ := results_ok (E := E) (fn := fn) S'.rl A' hv1
                exact ⟨hd', v', g1, μ', v', rfl, S', g2⟩
              · cases h
end
#print axioms evCall_ok
end Go.Proofs.YtmbofpmjckjceaaDoor.E
