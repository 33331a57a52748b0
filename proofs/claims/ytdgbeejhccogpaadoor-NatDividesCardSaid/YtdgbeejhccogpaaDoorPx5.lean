-- Printed by this session's own program out of the translation.
import Derived.Test.YtdgbeejhccogpaaDoorPx0
namespace Go.Proofs.YtdgbeejhccogpaaDoor.P
open Go.RowKit Go.Proofs.YtdgbeejhccogpaaDoorW.PrintWords Go.Proofs.YtdgbeejhccogpaaDoorW.PrintLast Go.Proofs.YtdgbeejhccogpaaDoorW.PrintMore
attribute [local go_sem] max2_int min2_int max_two min_two max_three min_three max_four min_four   -- for this text's walks alone
set_option linter.unusedVariables false
set_option linter.unusedSimpArgs false

/-! ### samphireref02_Small: function 11 -/
set_option maxHeartbeats 8000000 in
set_option maxRecDepth 100000 in
theorem samphireref02_Small.calls (A0 : Option Addr) (c0 : Nat) (l0 : List Int) (r : Bool) (w : World) (hr0 : Kd.C (Kd.int .u32) w A0 l0.length l0) (hc0 : l0.length ≤ c0) (h : samphireref02_Small.f l0 = some r) :
    Calls Tryd.prog 11 #[.slice A0 l0.length c0] w fun e w' => e = .returned (.bool r) ∧ Drawn0 w w' := by
  have HR0 := Aside0.mk hr0
  have HC0 := Aside0.mk hc0
  clear hr0 hc0
  have H : (some (decide ((l0.length : Int) ≤ 70))) = some r := h
  clear h
  obtain rfl := Option.some.inj H
  go_enter Tryd.func11, Tryd.ntmps11
  go_wp2
  go_ret
  exact ⟨by first | rfl | (simp; done) | (simp [*]; done) | (simp; exact isEmpty_bne _), by repeat (first | exact Drawn0.refl _ | apply Drawn0.step)⟩

/-! ### samphireref02_Right: function 15 -/
set_option maxHeartbeats 8000000 in
set_option maxRecDepth 100000 in
theorem samphireref02_Right.calls (A0 : Option Addr) (c0 : Nat) (l0 : List Int) (r : Bool) (w : World) (hr0 : Kd.C (Kd.int .u32) w A0 l0.length l0) (hc0 : l0.length ≤ c0) (h : samphireref02_Right.f l0 = some r) :
    Calls Tryd.prog 15 #[.slice A0 l0.length c0] w fun e w' => e = .returned (.bool r) ∧ Drawn0 w w' := by
  have HR0 := Aside0.mk hr0
  have HC0 := Aside0.mk hc0
  clear hr0 hc0
  have H : (if (l0.length : Int) > 64 then (some false) else (if (l0.length : Int) = 0 then (some true) else (if 0 ≤ (wrap64 ((l0.length : Int) - 1)) then (if (wrap64 ((l0.length : Int) - 1)) < (l0.length : Int) then (some (decide ((rd l0 (wrap64 ((l0.length : Int) - 1))) > 0))) else (none)) else (none)))) = some r := h
  clear h
  by_cases c2 : (l0.length : Int) > 64
  · rw [if_pos c2] at H
    have c2b0 : decide (64 < (l0.length : Int)) = true := decide_eq_true c2
    have c2b1 : decide (64 < l0.length) = true := decide_eq_true (by omega)
    clear c2
    obtain rfl := Option.some.inj H
    go_enter Tryd.func15, Tryd.ntmps15
    go_wp2
    go_ret
    exact ⟨by first | rfl | (simp; done) | (simp [*]; done) | (simp; exact isEmpty_bne _), by repeat (first | exact Drawn0.refl _ | apply Drawn0.step)⟩
  · rw [if_neg c2] at H
    have c2b0 : decide (64 < (l0.length : Int)) = false := decide_eq_false c2
    have c2b1 : decide (64 < l0.length) = false := decide_eq_false (by omega)
    clear c2
    by_cases c3 : (l0.length : Int) = 0
    · rw [if_pos c3] at H
      have c3b0 : ((l0.length : Int) == 0) = true := beq_iff_eq.mpr c3
      have c3b1 : ((l0.length : Int) != 0) = false := bne_eq_false_iff_eq.mpr c3
      clear c3
      obtain rfl := Option.some.inj H
      go_enter Tryd.func15, Tryd.ntmps15
      go_wp2
      go_ret
      exact ⟨by first | rfl | (simp; done) | (simp [*]; done) | (simp; exact isEmpty_bne _), by repeat (first | exact Drawn0.refl _ | apply Drawn0.step)⟩
    · rw [if_neg c3] at H
      have c3b0 : ((l0.length : Int) == 0) = false := beq_eq_false_iff_ne.mpr c3
      have c3b1 : ((l0.length : Int) != 0) = true := bne_iff_ne.mpr c3
      have c3b2 : ¬ (l0 = []) := fun h_ => c3 (by rw [h_]; rfl)
      obtain ⟨ji4, hji4⟩ := let_j (wrap64 ((l0.length : Int) - 1))
      (first | rw [hji4] at H | simp only [hji4] at H ⊢)
      have hji4w : (IntKind.i64.wrap ((l0.length : Int) - 1)) = ji4 := (i64_w _).trans hji4
      obtain ⟨c5, H⟩ := ite_p H
      have c5b0 : decide (0 ≤ (ji4)) = true := decide_eq_true c5
      clear c5
      obtain ⟨c6, H⟩ := ite_p H
      have c6b0 : decide ((ji4) < (l0.length : Int)) = true := decide_eq_true c6
      clear c6
      obtain rfl := Option.some.inj H
      have p354 : 0 ≤ ((ji4) : Int) := DA
      have q354 : (ji4) < (l0.length : Int) := DA
      obtain ⟨ad354, e354, hx354_0⟩ := Kd.at_int HR0.out (ji4) p354 q354
      cases e354
      replace p354 := eq_true p354
      replace q354 := eq_true q354
      go_enter Tryd.func15, Tryd.ntmps15
      go_wp2
      go_ret
      exact ⟨by first | rfl | (simp; done) | (simp only [← hji4] <;> (first | rfl | simp)) | (simp [*]; done), by repeat (first | exact Drawn0.refl _ | apply Drawn0.step)⟩

/-! ### samphireref02_Half: function 47 -/
set_option maxHeartbeats 8000000 in
set_option maxRecDepth 100000 in
theorem samphireref02_Half.calls (k : Nat) (A0 : Option Addr) (c0 : Nat) (l0 : List Int) (a1 : Int) (r : List Int) (w : World) (hr0 : Kd.C (Kd.int .u32) w A0 l0.length l0) (hc0 : l0.length ≤ c0) (h : samphireref02_Half.f k l0 a1 = some r) :
    Calls Tryd.prog 47 #[.slice A0 l0.length c0, .int .i64 a1] w fun e w' => ∃ v0_ : Value, e = .returned (v0_) ∧ Kd.R (Kd.int .u64) 37 w' w.heap.size (fun _ => True) v0_ r ∧ Below w.heap.size w w' := by
  have HR0 := Aside0.mk hr0
  have HC0 := Aside0.mk hc0
  clear hr0 hc0
  have HB := Aside0.mk (Below.refl w.heap.size w)
  have H : (samphireref02_Half.l0 k l0 a1 ([] : List Int) 0) = some r := h
  clear h
  have H' := Aside0.mk H
  clear H
  go_enter Tryd.func47, Tryd.ntmps47
  go_wp2
  go_loopg [5, 6] k (fun kq v5 v6 w' => ∃ (x5_1 : List Int) (x6_1 : Int), v6 = .int .i64 x6_1 ∧ Aside0 (samphireref02_Half.l0 kq l0 a1 x5_1 x6_1 = some r) ∧ Aside0 (kq ≤ k) ∧ Aside0 (Kd.R (Kd.int .u64) 37 w' w.heap.size (fun _ => True) v5 x5_1) ∧ Aside0 (Below w.heap.size w w'))
  case atStart => exact ⟨(([] : List Int)), (0), (by first | rfl | (simp; done) | (simp [*]; done) | (simp; exact isEmpty_bne _)), H', ⟨Nat.le_refl _⟩, ⟨by first | exact Kd.R_nil _ _ _ _ _ | exact Kd.N_nil _ _ _ _ _ | exact Kd.V_nil _ _ _ _ _ | exact Kd.Q_nil _ _ _ _ _ | exact Kd.S_nil _ _ _ _ _⟩, ⟨BL⟩⟩
  case round =>
    clear H'
    try clear p2
    obtain ⟨x5_1, x6_1, rfl, HA, HK1, HO_5, HB⟩ := hrel
    cases gk with
    | zero => exact absurd HA.out (by simp [samphireref02_Half.l0])
    | succ k1 =>
      have H := HA.out
      clear HA
      simp only [samphireref02_Half.l0] at H
      by_cases c3 : x6_1 < a1
      · rw [if_pos c3] at H
        have c3b0 : decide (x6_1 < a1) = true := decide_eq_true c3
        clear c3
        by_cases c4 : (wrap64 (Int.tdiv x6_1 2)) < (l0.length : Int)
        · rw [if_pos c4] at H
          have c4b0 : decide ((wrap64 (Int.tdiv x6_1 2)) < (l0.length : Int)) = true := decide_eq_true c4
          clear c4
          obtain ⟨ji5, hji5⟩ := let_j (wrap64 (Int.tdiv x6_1 2))
          (first | rw [hji5] at H | simp only [hji5] at H ⊢)
          (try rw [hji5] at c4b0)
          have hji5w : (IntKind.i64.wrap (Int.tdiv x6_1 2)) = ji5 := (i64_w _).trans hji5
          obtain ⟨c6, H⟩ := ite_p H
          have c6b0 : decide (0 ≤ (ji5)) = true := decide_eq_true c6
          clear c6
          by_cases c7 : (Int.tmod x6_1 2) = 0
          · rw [if_pos c7] at H
            have c7b0 : ((Int.tmod x6_1 2) == 0) = true := beq_iff_eq.mpr c7
            have c7b1 : ((Int.tmod x6_1 2) != 0) = false := bne_eq_false_iff_eq.mpr c7
            clear c7
            obtain ⟨c8, H⟩ := ite_p H
            have LMc8 := Aside0.mk c8
            clear c8
            obtain ⟨y361, Ny361⟩ := let_p (x5_1 ++ [Int.tmod (IntKind.u64.wrap (rd l0 (ji5))) 65536] : List Int)
            (first | rw [← Ny361.out] at H | simp only [← Ny361.out] at H)
            have H' := Aside0.mk H
            clear H
            have p360 : 0 ≤ ((ji5) : Int) := DA
            have q360 : (ji5) < (l0.length : Int) := DA
            obtain ⟨ad360, e360, hx360_0⟩ := Kd.at_int HR0.out (ji5) p360 q360
            cases e360
            replace hx360_0 := (HB.out.cell (World.block_lt_of_cell? w _ hx360_0)).trans hx360_0
            replace p360 := eq_true p360
            replace q360 := eq_true q360
            go_wp2_with (first | ((with_reducible refine gate_builtin (b := .append) (xs := #[.tmp 27, .tmp 30]) rfl ?_); at_builtin; refine Kd.R_append (Kd.int .u64) (w0 := w) w.heap.size rfl (.tmp 27) (.tmp 30) 57 37 (.int .u64 0) 8 rfl Tryd.underlying57 info37 rfl (by decide) (by omega) u5 x5_1 (Int.tmod (IntKind.u64.wrap (rd l0 (ji5))) 65536) [.int .u64 (Int.tmod (IntKind.u64.wrap (rd l0 (ji5))) 65536)] (fun _ => True) (fun _ => False) rfl rfl ?aP (fun _ hk => hk.elim) ?aF ?aO ?aB ?aS ?aL ?_; (case aP => exact rfl); (case aB => exact BL); (case aF => exact (fun _ _ => trivial)); (case aO => exact (RL HO_5)); (case aS => exact (below_size BL)); (case aL => have := LMc8.out; omega); intro v362 w9 ho hb hg hat; rw [← Ny361.out] at ho; have n0_ := Aside0.mk (hb); have n1_ := Aside0.mk (ho); clear HB; clear HO_5; have HB := n0_; have HO363 := n1_; clear n0_ n1_; clear ho hb hg hat))
            go_roundg k1
            case measure => have := HK1.out; omega
            case rel => exact ⟨(y361), (wrap64 (x6_1 + 1)), (by first | rfl | (simp; done) | (simp [*]; done) | (simp; exact isEmpty_bne _)), H', ⟨by have := HK1.out; omega⟩, ⟨by (with_reducible repeat (first | apply Kd.R_alloc | apply Kd.R_drewN | apply Kd.R_drew)); exact HO363.out⟩, ⟨BL⟩⟩
          · rw [if_neg c7] at H
            have c7b0 : ((Int.tmod x6_1 2) == 0) = false := beq_eq_false_iff_ne.mpr c7
            have c7b1 : ((Int.tmod x6_1 2) != 0) = true := bne_iff_ne.mpr c7
            obtain ⟨c10, H⟩ := ite_p H
            have LMc10 := Aside0.mk c10
            clear c10
            obtain ⟨y364, Ny364⟩ := let_p (x5_1 ++ [IntKind.u64.wrap (Int.tdiv (IntKind.u64.wrap (rd l0 (ji5))) 65536)] : List Int)
            (first | rw [← Ny364.out] at H | simp only [← Ny364.out] at H)
            have H' := Aside0.mk H
            clear H
            have p360 : 0 ≤ ((ji5) : Int) := DA
            have q360 : (ji5) < (l0.length : Int) := DA
            obtain ⟨ad360, e360, hx360_0⟩ := Kd.at_int HR0.out (ji5) p360 q360
            cases e360
            replace hx360_0 := (HB.out.cell (World.block_lt_of_cell? w _ hx360_0)).trans hx360_0
            replace p360 := eq_true p360
            replace q360 := eq_true q360
            go_wp2_with (first | ((with_reducible refine gate_builtin (b := .append) (xs := #[.tmp 32, .tmp 35]) rfl ?_); at_builtin; refine Kd.R_append (Kd.int .u64) (w0 := w) w.heap.size rfl (.tmp 32) (.tmp 35) 57 37 (.int .u64 0) 8 rfl Tryd.underlying57 info37 rfl (by decide) (by omega) u5 x5_1 (IntKind.u64.wrap (Int.tdiv (IntKind.u64.wrap (rd l0 (ji5))) 65536)) [.int .u64 (IntKind.u64.wrap (Int.tdiv (IntKind.u64.wrap (rd l0 (ji5))) 65536))] (fun _ => True) (fun _ => False) rfl rfl ?aP (fun _ hk => hk.elim) ?aF ?aO ?aB ?aS ?aL ?_; (case aP => exact rfl); (case aB => exact BL); (case aF => exact (fun _ _ => trivial)); (case aO => exact (RL HO_5)); (case aS => exact (below_size BL)); (case aL => have := LMc10.out; omega); intro v365 w11 ho hb hg hat; rw [← Ny364.out] at ho; have n0_ := Aside0.mk (hb); have n1_ := Aside0.mk (ho); clear HB; clear HO_5; have HB := n0_; have HO366 := n1_; clear n0_ n1_; clear ho hb hg hat))
            go_roundg k1
            case measure => have := HK1.out; omega
            case rel => exact ⟨(y364), (wrap64 (x6_1 + 1)), (by first | rfl | (simp; done) | (simp [*]; done) | (simp; exact isEmpty_bne _)), H', ⟨by have := HK1.out; omega⟩, ⟨by (with_reducible repeat (first | apply Kd.R_alloc | apply Kd.R_drewN | apply Kd.R_drew)); exact HO366.out⟩, ⟨BL⟩⟩
        · rw [if_neg c4] at H
          have c4b0 : decide ((wrap64 (Int.tdiv x6_1 2)) < (l0.length : Int)) = false := decide_eq_false c4
          clear c4
          by_cases c12 : (Int.tmod x6_1 2) = 0
          · rw [if_pos c12] at H
            have c12b0 : ((Int.tmod x6_1 2) == 0) = true := beq_iff_eq.mpr c12
            have c12b1 : ((Int.tmod x6_1 2) != 0) = false := bne_eq_false_iff_eq.mpr c12
            clear c12
            obtain ⟨c13, H⟩ := ite_p H
            have LMc13 := Aside0.mk c13
            clear c13
            obtain ⟨y367, Ny367⟩ := let_p (x5_1 ++ [0] : List Int)
            (first | rw [← Ny367.out] at H | simp only [← Ny367.out] at H)
            have H' := Aside0.mk H
            clear H
            go_wp2_with (first | ((with_reducible refine gate_builtin (b := .append) (xs := #[.tmp 27, .tmp 30]) rfl ?_); at_builtin; refine Kd.R_append (Kd.int .u64) (w0 := w) w.heap.size rfl (.tmp 27) (.tmp 30) 57 37 (.int .u64 0) 8 rfl Tryd.underlying57 info37 rfl (by decide) (by omega) u5 x5_1 0 [.int .u64 0] (fun _ => True) (fun _ => False) rfl rfl ?aP (fun _ hk => hk.elim) ?aF ?aO ?aB ?aS ?aL ?_; (case aP => exact rfl); (case aB => exact BL); (case aF => exact (fun _ _ => trivial)); (case aO => exact (RL HO_5)); (case aS => exact (below_size BL)); (case aL => have := LMc13.out; omega); intro v368 w14 ho hb hg hat; rw [← Ny367.out] at ho; have n0_ := Aside0.mk (hb); have n1_ := Aside0.mk (ho); clear HB; clear HO_5; have HB := n0_; have HO369 := n1_; clear n0_ n1_; clear ho hb hg hat))
            go_roundg k1
            case measure => have := HK1.out; omega
            case rel => exact ⟨(y367), (wrap64 (x6_1 + 1)), (by first | rfl | (simp; done) | (simp [*]; done) | (simp; exact isEmpty_bne _)), H', ⟨by have := HK1.out; omega⟩, ⟨by (with_reducible repeat (first | apply Kd.R_alloc | apply Kd.R_drewN | apply Kd.R_drew)); exact HO369.out⟩, ⟨BL⟩⟩
          · rw [if_neg c12] at H
            have c12b0 : ((Int.tmod x6_1 2) == 0) = false := beq_eq_false_iff_ne.mpr c12
            have c12b1 : ((Int.tmod x6_1 2) != 0) = true := bne_iff_ne.mpr c12
            obtain ⟨c15, H⟩ := ite_p H
            have LMc15 := Aside0.mk c15
            clear c15
            obtain ⟨y370, Ny370⟩ := let_p (x5_1 ++ [0] : List Int)
            (first | rw [← Ny370.out] at H | simp only [← Ny370.out] at H)
            have H' := Aside0.mk H
            clear H
            go_wp2_with (first | ((with_reducible refine gate_builtin (b := .append) (xs := #[.tmp 32, .tmp 35]) rfl ?_); at_builtin; refine Kd.R_append (Kd.int .u64) (w0 := w) w.heap.size rfl (.tmp 32) (.tmp 35) 57 37 (.int .u64 0) 8 rfl Tryd.underlying57 info37 rfl (by decide) (by omega) u5 x5_1 0 [.int .u64 0] (fun _ => True) (fun _ => False) rfl rfl ?aP (fun _ hk => hk.elim) ?aF ?aO ?aB ?aS ?aL ?_; (case aP => exact rfl); (case aB => exact BL); (case aF => exact (fun _ _ => trivial)); (case aO => exact (RL HO_5)); (case aS => exact (below_size BL)); (case aL => have := LMc15.out; omega); intro v371 w16 ho hb hg hat; rw [← Ny370.out] at ho; have n0_ := Aside0.mk (hb); have n1_ := Aside0.mk (ho); clear HB; clear HO_5; have HB := n0_; have HO372 := n1_; clear n0_ n1_; clear ho hb hg hat))
            go_roundg k1
            case measure => have := HK1.out; omega
            case rel => exact ⟨(y370), (wrap64 (x6_1 + 1)), (by first | rfl | (simp; done) | (simp [*]; done) | (simp; exact isEmpty_bne _)), H', ⟨by have := HK1.out; omega⟩, ⟨by (with_reducible repeat (first | apply Kd.R_alloc | apply Kd.R_drewN | apply Kd.R_drew)); exact HO372.out⟩, ⟨BL⟩⟩
      · rw [if_neg c3] at H
        have c3b0 : decide (x6_1 < a1) = false := decide_eq_false c3
        clear c3
        obtain rfl := Option.some.inj H
        go_wp2
        go_ret
        exact ⟨_, by first | rfl | (simp [errW_none, errW_some] <;> rfl) | (simp [*, errW_none, errW_some] <;> rfl), by (with_reducible repeat (first | apply Kd.R_alloc | apply Kd.R_drewN | apply Kd.R_drew)); exact HO_5.out, BL⟩

/-! ### samphireref02_Whole: function 48 -/
set_option maxHeartbeats 8000000 in
set_option maxRecDepth 100000 in
theorem samphireref02_Whole.calls (k : Nat) (A0 : Option Addr) (c0 : Nat) (l0 : List Int) (r : List Int) (w : World) (hr0 : Kd.C (Kd.int .u64) w A0 l0.length l0) (hc0 : l0.length ≤ c0) (h : samphireref02_Whole.f k l0 = some r) :
    Calls Tryd.prog 48 #[.slice A0 l0.length c0] w fun e w' => ∃ v0_ : Value, e = .returned (v0_) ∧ Kd.R (Kd.int .u32) 36 w' w.heap.size (fun _ => True) v0_ r ∧ Below w.heap.size w w' := by
  have HR0 := Aside0.mk hr0
  have HC0 := Aside0.mk hc0
  clear hr0 hc0
  have HB := Aside0.mk (Below.refl w.heap.size w)
  have H : (samphireref02_Whole.l0 k l0 ([] : List Int) 0) = some r := h
  clear h
  have H' := Aside0.mk H
  clear H
  go_enter Tryd.func48, Tryd.ntmps48
  go_wp2
  go_loopg [3, 4] k (fun kq v3 v4 w' => ∃ (x3_1 : List Int) (x4_1 : Int), v4 = .int .i64 x4_1 ∧ Aside0 (samphireref02_Whole.l0 kq l0 x3_1 x4_1 = some r) ∧ Aside0 (kq ≤ k) ∧ Aside0 (Kd.R (Kd.int .u32) 36 w' w.heap.size (fun _ => True) v3 x3_1) ∧ Aside0 (Below w.heap.size w w'))
  case atStart => exact ⟨(([] : List Int)), (0), (by first | rfl | (simp; done) | (simp [*]; done) | (simp; exact isEmpty_bne _)), H', ⟨Nat.le_refl _⟩, ⟨by first | exact Kd.R_nil _ _ _ _ _ | exact Kd.N_nil _ _ _ _ _ | exact Kd.V_nil _ _ _ _ _ | exact Kd.Q_nil _ _ _ _ _ | exact Kd.S_nil _ _ _ _ _⟩, ⟨BL⟩⟩
  case round =>
    clear H'
    obtain ⟨x3_1, x4_1, rfl, HA, HK1, HO_3, HB⟩ := hrel
    cases gk with
    | zero => exact absurd HA.out (by simp [samphireref02_Whole.l0])
    | succ k1 =>
      have H := HA.out
      clear HA
      simp only [samphireref02_Whole.l0] at H
      by_cases c2 : x4_1 < (l0.length : Int)
      · rw [if_pos c2] at H
        have c2b0 : decide (x4_1 < (l0.length : Int)) = true := decide_eq_true c2
        clear c2
        obtain ⟨c3, H⟩ := ite_p H
        have c3b0 : decide (0 ≤ x4_1) = true := decide_eq_true c3
        clear c3
        by_cases c4 : (wrap64 (x4_1 + 1)) < (l0.length : Int)
        · rw [if_pos c4] at H
          have c4b0 : decide ((wrap64 (x4_1 + 1)) < (l0.length : Int)) = true := decide_eq_true c4
          clear c4
          obtain ⟨ji5, hji5⟩ := let_j (wrap64 (x4_1 + 1))
          (first | rw [hji5] at H | simp only [hji5] at H ⊢)
          (try rw [hji5] at c4b0)
          have hji5w : (IntKind.i64.wrap (x4_1 + 1)) = ji5 := (i64_w _).trans hji5
          obtain ⟨c6, H⟩ := ite_p H
          have c6b0 : decide (0 ≤ (ji5)) = true := decide_eq_true c6
          clear c6
          obtain ⟨c7, H⟩ := ite_p H
          have LMc7 := Aside0.mk c7
          clear c7
          obtain ⟨y375, Ny375⟩ := let_p (x3_1 ++ [(IntKind.u64.wrap ((rd l0 x4_1) + (IntKind.u64.wrap (65536 * (rd l0 (ji5)))))) % 4294967296] : List Int)
          (first | rw [← Ny375.out] at H | simp only [← Ny375.out] at H)
          have H' := Aside0.mk H
          clear H
          have p373 : 0 ≤ (x4_1 : Int) := DA
          have q373 : x4_1 < (l0.length : Int) := DA
          obtain ⟨ad373, e373, hx373_0⟩ := Kd.at_int HR0.out x4_1 p373 q373
          cases e373
          replace hx373_0 := (HB.out.cell (World.block_lt_of_cell? w _ hx373_0)).trans hx373_0
          replace p373 := eq_true p373
          replace q373 := eq_true q373
          have p374 : 0 ≤ ((ji5) : Int) := DA
          have q374 : (ji5) < (l0.length : Int) := DA
          obtain ⟨ad374, e374, hx374_0⟩ := Kd.at_int HR0.out (ji5) p374 q374
          obtain rfl : ad373 = ad374 := (by injection e374)
          replace hx374_0 := (HB.out.cell (World.block_lt_of_cell? w _ hx374_0)).trans hx374_0
          replace p374 := eq_true p374
          replace q374 := eq_true q374
          go_wp2_with (first | ((with_reducible refine gate_builtin (b := .append) (xs := #[.tmp 29, .tmp 32]) rfl ?_); (try (refine gate_guard (by rfl) ?_; dsimp only)); at_builtin; refine Kd.R_append (Kd.int .u32) (w0 := w) w.heap.size rfl (.tmp 29) (.tmp 32) 23 36 (.int .u32 0) 4 rfl Tryd.underlying23 info36 rfl (by decide) (by omega) u3 x3_1 ((IntKind.u64.wrap ((rd l0 x4_1) + (IntKind.u64.wrap (65536 * (rd l0 (ji5)))))) % 4294967296) [.int .u32 ((IntKind.u64.wrap ((rd l0 x4_1) + (IntKind.u64.wrap (65536 * (rd l0 (ji5)))))) % 4294967296)] (fun _ => True) (fun _ => False) rfl rfl ?aP (fun _ hk => hk.elim) ?aF ?aO ?aB ?aS ?aL ?_; (case aP => exact rfl); (case aB => exact BL); (case aF => exact (fun _ _ => trivial)); (case aO => exact (RL HO_3)); (case aS => exact (below_size BL)); (case aL => have := LMc7.out; omega); intro v376 w8 ho hb hg hat; rw [← Ny375.out] at ho; have n0_ := Aside0.mk (hb); have n1_ := Aside0.mk (ho); clear HB; clear HO_3; have HB := n0_; have HO377 := n1_; clear n0_ n1_; clear ho hb hg hat))
          go_roundg k1
          case measure => have := HK1.out; omega
          case rel => exact ⟨(y375), (wrap64 (x4_1 + 2)), (by first | rfl | (simp; done) | (simp [*]; done) | (simp; exact isEmpty_bne _)), H', ⟨by have := HK1.out; omega⟩, ⟨by (with_reducible repeat (first | apply Kd.R_alloc | apply Kd.R_drewN | apply Kd.R_drew)); exact HO377.out⟩, ⟨BL⟩⟩
        · rw [if_neg c4] at H
          have c4b0 : decide ((wrap64 (x4_1 + 1)) < (l0.length : Int)) = false := decide_eq_false c4
          clear c4
          obtain ⟨c9, H⟩ := ite_p H
          have LMc9 := Aside0.mk c9
          clear c9
          obtain ⟨y378, Ny378⟩ := let_p (x3_1 ++ [(rd l0 x4_1) % 4294967296] : List Int)
          (first | rw [← Ny378.out] at H | simp only [← Ny378.out] at H)
          have H' := Aside0.mk H
          clear H
          have p373 : 0 ≤ (x4_1 : Int) := DA
          have q373 : x4_1 < (l0.length : Int) := DA
          obtain ⟨ad373, e373, hx373_0⟩ := Kd.at_int HR0.out x4_1 p373 q373
          cases e373
          replace hx373_0 := (HB.out.cell (World.block_lt_of_cell? w _ hx373_0)).trans hx373_0
          replace p373 := eq_true p373
          replace q373 := eq_true q373
          go_wp2_with (first | ((with_reducible refine gate_builtin (b := .append) (xs := #[.tmp 29, .tmp 32]) rfl ?_); (try (refine gate_guard (by rfl) ?_; dsimp only)); at_builtin; refine Kd.R_append (Kd.int .u32) (w0 := w) w.heap.size rfl (.tmp 29) (.tmp 32) 23 36 (.int .u32 0) 4 rfl Tryd.underlying23 info36 rfl (by decide) (by omega) u3 x3_1 ((rd l0 x4_1) % 4294967296) [.int .u32 ((rd l0 x4_1) % 4294967296)] (fun _ => True) (fun _ => False) rfl rfl ?aP (fun _ hk => hk.elim) ?aF ?aO ?aB ?aS ?aL ?_; (case aP => exact rfl); (case aB => exact BL); (case aF => exact (fun _ _ => trivial)); (case aO => exact (RL HO_3)); (case aS => exact (below_size BL)); (case aL => have := LMc9.out; omega); intro v379 w10 ho hb hg hat; rw [← Ny378.out] at ho; have n0_ := Aside0.mk (hb); have n1_ := Aside0.mk (ho); clear HB; clear HO_3; have HB := n0_; have HO380 := n1_; clear n0_ n1_; clear ho hb hg hat))
          go_roundg k1
          case measure => have := HK1.out; omega
          case rel => exact ⟨(y378), (wrap64 (x4_1 + 2)), (by first | rfl | (simp; done) | (simp [*]; done) | (simp; exact isEmpty_bne _)), H', ⟨by have := HK1.out; omega⟩, ⟨by (with_reducible repeat (first | apply Kd.R_alloc | apply Kd.R_drewN | apply Kd.R_drew)); exact HO380.out⟩, ⟨BL⟩⟩
      · rw [if_neg c2] at H
        have c2b0 : decide (x4_1 < (l0.length : Int)) = false := decide_eq_false c2
        clear c2
        have H' := Aside0.mk H
        clear H
        go_wp2
        go_loopg [3] k1 (fun kq v3 w' => ∃ (x3_2 : List Int), Aside0 (samphireref02_Whole.l1 kq x3_2 = some r) ∧ Aside0 (kq ≤ k1) ∧ Aside0 (Kd.R (Kd.int .u32) 36 w' w.heap.size (fun _ => True) v3 x3_2) ∧ Aside0 (Below w.heap.size w w'))
        case atStart => exact ⟨(x3_1), H', ⟨Nat.le_refl _⟩, ⟨by (with_reducible repeat (first | apply Kd.R_alloc | apply Kd.R_drewN | apply Kd.R_drew)); exact HO_3.out⟩, ⟨BL⟩⟩
        case round =>
          clear H'
          try clear c2
          try clear c2b0
          try clear p2
          try clear c3
          try clear c3b0
          try clear p3
          try clear q3
          try clear hx3
          try clear c4
          try clear c4b0
          try clear c6
          try clear c6b0
          try clear p6
          try clear c7
          try clear c9
          try clear hx373_0
          try clear hx374_0
          try clear p373
          try clear p374
          try clear q373
          try clear q374
          obtain ⟨x3_2, HA, HK2, HO_3, HB⟩ := hrel
          cases gk with
          | zero => exact absurd HA.out (by simp [samphireref02_Whole.l1])
          | succ k2 =>
            have H := HA.out
            clear HA
            simp only [samphireref02_Whole.l1] at H
            by_cases c11 : (x3_2.length : Int) > 0
            · rw [if_pos c11] at H
              have c11b0 : decide (0 < (x3_2.length : Int)) = true := decide_eq_true c11
              have c11b1 : decide (0 < x3_2.length) = true := decide_eq_true (by omega)
              clear c11
              obtain ⟨ji12, hji12⟩ := let_j (wrap64 ((x3_2.length : Int) - 1))
              (first | rw [hji12] at H | simp only [hji12] at H ⊢)
              have hji12w : (IntKind.i64.wrap ((x3_2.length : Int) - 1)) = ji12 := (i64_w _).trans hji12
              obtain ⟨c13, H⟩ := ite_p H
              have c13b0 : decide (0 ≤ (ji12)) = true := decide_eq_true c13
              clear c13
              obtain ⟨c14, H⟩ := ite_p H
              have c14b0 : decide ((ji12) < (x3_2.length : Int)) = true := decide_eq_true c14
              clear c14
              by_cases c15 : (rd x3_2 (ji12)) = 0
              · rw [if_pos c15] at H
                have c15b0 : ((rd x3_2 (ji12)) == 0) = true := beq_iff_eq.mpr c15
                have c15b1 : ((rd x3_2 (ji12)) != 0) = false := bne_eq_false_iff_eq.mpr c15
                clear c15
                obtain ⟨c16, H⟩ := ite_p H
                have c16b0 := eq_true c16
                have c16b1 : decide ((ji12) ≤ (x3_2.length : Int)) = true := decide_eq_true c16
                clear c16
                obtain ⟨y382, Ny382⟩ := let_p (x3_2.take ((ji12) : Int).toNat : List Int)
                (first | rw [← Ny382.out] at H | simp only [← Ny382.out] at H)
                have H' := Aside0.mk H
                clear H
                obtain ⟨Ao17, co17, eo17⟩ := Kd.R_slice HO_3.out
                subst eo17
                have p381 : 0 ≤ ((ji12) : Int) := DA
                have q381 : (ji12) < (x3_2.length : Int) := DA
                obtain ⟨ad381, e381, hx381_0⟩ := Kd.at_int (Kd.R_reads' HO_3.out).2.2 (ji12) p381 q381
                cases e381
                replace p381 := eq_true p381
                replace q381 := eq_true q381
                have q18 : ((ji12) : Int) ≤ ((x3_2.length : Int) : Int) := DA
                obtain ⟨i018, hi018, _, hsz18, _⟩ := info_parts info36
                have hcut18 := cut_to (P := Tryd.prog) 23 36 .i64 Tryd.underlying23 hi018 (some ad381) x3_2.length co17 (ji12) (DA) q18 (Kd.R_reads' HO_3.out).2.1
                have hr18 := Kd.R_take (m := ((ji12) : Int).toNat) HO_3.out (by omega)
                have hy18 : y382.length = ((ji12) : Int).toNat := (by rw [Ny382.out, List.length_take]; omega)
                rw [← Ny382.out] at hr18
                rw [← hy18] at hr18 hcut18
                clear hy18 hi018 hsz18 HO_3
                have HO384 := Aside0.mk hr18
                clear hr18
                replace q18 := eq_true q18
                go_wp2
                go_roundg k2
                case measure => have := HK1.out; have := HK2.out; omega
                case rel => exact ⟨(y382), H', ⟨by have := HK1.out; have := HK2.out; omega⟩, ⟨by (with_reducible repeat (first | apply Kd.R_alloc | apply Kd.R_drewN | apply Kd.R_drew)); exact HO384.out⟩, ⟨BL⟩⟩
              · rw [if_neg c15] at H
                have c15b0 : ((rd x3_2 (ji12)) == 0) = false := beq_eq_false_iff_ne.mpr c15
                have c15b1 : ((rd x3_2 (ji12)) != 0) = true := bne_iff_ne.mpr c15
                obtain rfl := Option.some.inj H
                obtain ⟨Ao19, co19, eo19⟩ := Kd.R_slice HO_3.out
                subst eo19
                have p381 : 0 ≤ ((ji12) : Int) := DA
                have q381 : (ji12) < (x3_2.length : Int) := DA
                obtain ⟨ad381, e381, hx381_0⟩ := Kd.at_int (Kd.R_reads' HO_3.out).2.2 (ji12) p381 q381
                cases e381
                replace p381 := eq_true p381
                replace q381 := eq_true q381
                go_wp2
                go_ret
                exact ⟨_, by first | rfl | (simp [errW_none, errW_some] <;> rfl) | (simp only [← hji12]; first | rfl | (simp [errW_none, errW_some] <;> rfl)) | (simp [*, errW_none, errW_some] <;> rfl), by (with_reducible repeat (first | apply Kd.R_alloc | apply Kd.R_drewN | apply Kd.R_drew)); exact HO_3.out, BL⟩
            · rw [if_neg c11] at H
              have c11b0 : decide (0 < (x3_2.length : Int)) = false := decide_eq_false c11
              have c11b1 : decide (0 < x3_2.length) = false := decide_eq_false (by omega)
              clear c11
              obtain rfl := Option.some.inj H
              obtain ⟨Ao20, co20, eo20⟩ := Kd.R_slice HO_3.out
              subst eo20
              go_wp2
              go_ret
              exact ⟨_, by first | rfl | (simp [errW_none, errW_some] <;> rfl) | (simp [*, errW_none, errW_some] <;> rfl), by (with_reducible repeat (first | apply Kd.R_alloc | apply Kd.R_drewN | apply Kd.R_drew)); exact HO_3.out, BL⟩

end Go.Proofs.YtdgbeejhccogpaaDoor.P
