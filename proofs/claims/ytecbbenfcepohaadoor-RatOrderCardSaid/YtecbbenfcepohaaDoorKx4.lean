-- Printed by this session's own program out of the translation.
import Derived.Test.YtecbbenfcepohaaDoorKx0
import Derived.Test.YtecbbenfcepohaaDoorKx3
namespace Go.Proofs.YtecbbenfcepohaaDoor.K
open Go.RowKit Go.Proofs.YtecbbenfcepohaaDoorW.PrintWords Go.Proofs.YtecbbenfcepohaaDoorW.PrintLast Go.Proofs.YtecbbenfcepohaaDoorW.PrintMore
attribute [local go_sem] max2_int min2_int max_two min_two max_three min_three max_four min_four   -- for this text's walks alone
set_option linter.unusedVariables false
set_option linter.unusedSimpArgs false

/-! ### samphireref02_Cmp: function 51 -/
set_option maxHeartbeats 8000000 in
set_option maxRecDepth 100000 in
theorem samphireref02_Cmp.calls (k : Nat) (A0 : Option Addr) (c0 : Nat) (l0 : List Int) (A1 : Option Addr) (c1 : Nat) (l1 : List Int) (r : Int) (w : World) (hr0 : Kd.C (Kd.int .u32) w A0 l0.length l0) (hc0 : l0.length ≤ c0) (hr1 : Kd.C (Kd.int .u32) w A1 l1.length l1) (hc1 : l1.length ≤ c1) (h : samphireref02_Cmp.f k l0 l1 = some r) :
    Calls Tryd.prog 51 #[.slice A0 l0.length c0, .slice A1 l1.length c1] w fun e w' => e = .returned (.int .i64 r) ∧ Drawn0 w w' := by
  have HR0 := Aside0.mk hr0
  have HC0 := Aside0.mk hc0
  clear hr0 hc0
  have HR1 := Aside0.mk hr1
  have HC1 := Aside0.mk hc1
  clear hr1 hc1
  have H : (if (l0.length : Int) = (l1.length : Int) then (samphireref02_Cmp.l0 k l0 l1 (wrap64 ((l0.length : Int) - 1))) else (if (l0.length : Int) < (l1.length : Int) then (some (-1)) else (some 1))) = some r := h
  clear h
  by_cases c3 : (l0.length : Int) = (l1.length : Int)
  · rw [if_pos c3] at H
    have c3b0 : ((l0.length : Int) == (l1.length : Int)) = true := beq_iff_eq.mpr c3
    have c3b1 : ((l0.length : Int) != (l1.length : Int)) = false := bne_eq_false_iff_eq.mpr c3
    have c3b2 : (l0.length == l1.length) = true := by first | simpa using c3 | (simp at c3 ⊢; omega)
    clear c3
    have H' := Aside0.mk H
    clear H
    go_enter Tryd.func51, Tryd.ntmps51
    go_wp2
    repeat (go_quiet (fail); try go_wp2)
    go_loopg [5] k (fun kq v5 w' => ∃ (x5_1 : Int), v5 = .int .i64 x5_1 ∧ Aside0 (samphireref02_Cmp.l0 kq l0 l1 x5_1 = some r) ∧ Aside0 (kq ≤ k) ∧ Drawn0 w w')
    case atStart => exact ⟨(wrap64 ((l0.length : Int) - 1)), (by first | rfl | (simp; done) | (simp [*]; done) | (simp; exact isEmpty_bne _)), H', ⟨Nat.le_refl _⟩, by repeat (first | exact Drawn0.refl _ | apply Drawn0.step)⟩
    case round =>
      clear H'
      try clear c1
      try clear p2
      try clear c3
      try clear c3b0
      try clear c3b1
      try clear c3b2
      obtain ⟨x5_1, rfl, HA, HK1, ⟨m1, rfl⟩⟩ := hrel
      cases gk with
      | zero => exact absurd HA.out (by simp [samphireref02_Cmp.l0])
      | succ k1 =>
        have H := HA.out
        clear HA
        simp only [samphireref02_Cmp.l0] at H
        by_cases c4 : x5_1 ≥ 0
        · rw [if_pos c4] at H
          have c4b0 : decide (0 ≤ x5_1) = true := decide_eq_true c4
          clear c4
          obtain ⟨c5, H⟩ := ite_p H
          have c5b0 : decide (0 ≤ x5_1) = true := decide_eq_true c5
          clear c5
          obtain ⟨c6, H⟩ := ite_p H
          have c6b0 : decide (x5_1 < (l0.length : Int)) = true := decide_eq_true c6
          clear c6
          obtain ⟨c7, H⟩ := ite_p H
          have c7b0 : decide (x5_1 < (l1.length : Int)) = true := decide_eq_true c7
          clear c7
          by_cases c8 : (rd l0 x5_1) = (rd l1 x5_1)
          · rw [if_pos c8] at H
            have c8b0 : ((rd l0 x5_1) == (rd l1 x5_1)) = true := beq_iff_eq.mpr c8
            have c8b1 : ((rd l0 x5_1) != (rd l1 x5_1)) = false := bne_eq_false_iff_eq.mpr c8
            clear c8
            have H' := Aside0.mk H
            clear H
            have p314 : 0 ≤ (x5_1 : Int) := DA
            have q314 : x5_1 < (l0.length : Int) := DA
            obtain ⟨ad314, e314, hx314_0⟩ := Kd.at_int HR0.out x5_1 p314 q314
            cases e314
            replace p314 := eq_true p314
            replace q314 := eq_true q314
            have p315 : 0 ≤ (x5_1 : Int) := DA
            have q315 : x5_1 < (l1.length : Int) := DA
            obtain ⟨ad315, e315, hx315_0⟩ := Kd.at_int HR1.out x5_1 p315 q315
            cases e315
            replace p315 := eq_true p315
            replace q315 := eq_true q315
            go_wp2
            repeat (go_quiet (fail); try go_wp2)
            go_roundg k1
            case measure => have := HK1.out; omega
            case rel => exact ⟨(wrap64 (x5_1 - 1)), (by first | rfl | (simp; done) | (simp [*]; done) | (simp; exact isEmpty_bne _)), H', ⟨by have := HK1.out; omega⟩, by repeat (first | exact Drawn0.refl _ | apply Drawn0.step)⟩
          · rw [if_neg c8] at H
            have c8b0 : ((rd l0 x5_1) == (rd l1 x5_1)) = false := beq_eq_false_iff_ne.mpr c8
            have c8b1 : ((rd l0 x5_1) != (rd l1 x5_1)) = true := bne_iff_ne.mpr c8
            by_cases c9 : (rd l0 x5_1) < (rd l1 x5_1)
            · rw [if_pos c9] at H
              have c9b0 : decide ((rd l0 x5_1) < (rd l1 x5_1)) = true := decide_eq_true c9
              clear c9
              obtain rfl := Option.some.inj H
              have p314 : 0 ≤ (x5_1 : Int) := DA
              have q314 : x5_1 < (l0.length : Int) := DA
              obtain ⟨ad314, e314, hx314_0⟩ := Kd.at_int HR0.out x5_1 p314 q314
              cases e314
              replace p314 := eq_true p314
              replace q314 := eq_true q314
              have p315 : 0 ≤ (x5_1 : Int) := DA
              have q315 : x5_1 < (l1.length : Int) := DA
              obtain ⟨ad315, e315, hx315_0⟩ := Kd.at_int HR1.out x5_1 p315 q315
              cases e315
              replace p315 := eq_true p315
              replace q315 := eq_true q315
              have p316 : 0 ≤ (x5_1 : Int) := DA
              have q316 : x5_1 < (l0.length : Int) := DA
              obtain ⟨ad316, e316, hx316_0⟩ := Kd.at_int HR0.out x5_1 p316 q316
              obtain rfl : ad314 = ad316 := (by injection e316)
              replace p316 := eq_true p316
              replace q316 := eq_true q316
              have p317 : 0 ≤ (x5_1 : Int) := DA
              have q317 : x5_1 < (l1.length : Int) := DA
              obtain ⟨ad317, e317, hx317_0⟩ := Kd.at_int HR1.out x5_1 p317 q317
              obtain rfl : ad315 = ad317 := (by injection e317)
              replace p317 := eq_true p317
              replace q317 := eq_true q317
              go_wp2
              repeat (go_quiet (fail); try go_wp2)
              go_ret
              exact ⟨by first | rfl | (simp; done) | (simp [*]; done) | (simp; exact isEmpty_bne _), by repeat (first | exact Drawn0.refl _ | apply Drawn0.step)⟩
            · rw [if_neg c9] at H
              have c9b0 : decide ((rd l0 x5_1) < (rd l1 x5_1)) = false := decide_eq_false c9
              clear c9
              obtain rfl := Option.some.inj H
              have p314 : 0 ≤ (x5_1 : Int) := DA
              have q314 : x5_1 < (l0.length : Int) := DA
              obtain ⟨ad314, e314, hx314_0⟩ := Kd.at_int HR0.out x5_1 p314 q314
              cases e314
              replace p314 := eq_true p314
              replace q314 := eq_true q314
              have p315 : 0 ≤ (x5_1 : Int) := DA
              have q315 : x5_1 < (l1.length : Int) := DA
              obtain ⟨ad315, e315, hx315_0⟩ := Kd.at_int HR1.out x5_1 p315 q315
              cases e315
              replace p315 := eq_true p315
              replace q315 := eq_true q315
              have p316 : 0 ≤ (x5_1 : Int) := DA
              have q316 : x5_1 < (l0.length : Int) := DA
              obtain ⟨ad316, e316, hx316_0⟩ := Kd.at_int HR0.out x5_1 p316 q316
              obtain rfl : ad314 = ad316 := (by injection e316)
              replace p316 := eq_true p316
              replace q316 := eq_true q316
              have p317 : 0 ≤ (x5_1 : Int) := DA
              have q317 : x5_1 < (l1.length : Int) := DA
              obtain ⟨ad317, e317, hx317_0⟩ := Kd.at_int HR1.out x5_1 p317 q317
              obtain rfl : ad315 = ad317 := (by injection e317)
              replace p317 := eq_true p317
              replace q317 := eq_true q317
              go_wp2
              repeat (go_quiet (fail); try go_wp2)
              go_ret
              exact ⟨by first | rfl | (simp; done) | (simp [*]; done) | (simp; exact isEmpty_bne _), by repeat (first | exact Drawn0.refl _ | apply Drawn0.step)⟩
        · rw [if_neg c4] at H
          have c4b0 : decide (0 ≤ x5_1) = false := decide_eq_false c4
          clear c4
          obtain rfl := Option.some.inj H
          go_wp2
          repeat (go_quiet (fail); try go_wp2)
          go_ret
          exact ⟨by first | rfl | (simp; done) | (simp [*]; done) | (simp; exact isEmpty_bne _), by repeat (first | exact Drawn0.refl _ | apply Drawn0.step)⟩
  · rw [if_neg c3] at H
    have c3b0 : ((l0.length : Int) == (l1.length : Int)) = false := beq_eq_false_iff_ne.mpr c3
    have c3b1 : ((l0.length : Int) != (l1.length : Int)) = true := bne_iff_ne.mpr c3
    have c3b2 : (l0.length == l1.length) = false := by first | simpa using c3 | (simp at c3 ⊢; omega)
    by_cases c10 : (l0.length : Int) < (l1.length : Int)
    · rw [if_pos c10] at H
      have c10b0 : decide ((l0.length : Int) < (l1.length : Int)) = true := decide_eq_true c10
      have c10b1 : decide (l0.length < l1.length) = true := decide_eq_true (Int.ofNat_lt.mp c10)
      clear c10
      obtain rfl := Option.some.inj H
      go_enter Tryd.func51, Tryd.ntmps51
      go_wp2
      repeat (go_quiet (fail); try go_wp2)
      go_ret
      exact ⟨by first | rfl | (simp; done) | (simp [*]; done) | (simp; exact isEmpty_bne _), by repeat (first | exact Drawn0.refl _ | apply Drawn0.step)⟩
    · rw [if_neg c10] at H
      have c10b0 : decide ((l0.length : Int) < (l1.length : Int)) = false := decide_eq_false c10
      have c10b1 : decide (l0.length < l1.length) = false := decide_eq_false (fun h => c10 (Int.ofNat_lt.mpr h))
      clear c10
      obtain rfl := Option.some.inj H
      go_enter Tryd.func51, Tryd.ntmps51
      go_wp2
      repeat (go_quiet (fail); try go_wp2)
      go_ret
      exact ⟨by first | rfl | (simp; done) | (simp [*]; done) | (simp; exact isEmpty_bne _), by repeat (first | exact Drawn0.refl _ | apply Drawn0.step)⟩

/-! ### samphireref02_Half: function 48 -/
set_option maxHeartbeats 8000000 in
set_option maxRecDepth 100000 in
theorem samphireref02_Half.calls (k : Nat) (A0 : Option Addr) (c0 : Nat) (l0 : List Int) (a1 : Int) (r : List Int) (w : World) (hr0 : Kd.C (Kd.int .u32) w A0 l0.length l0) (hc0 : l0.length ≤ c0) (h : samphireref02_Half.f k l0 a1 = some r) :
    Calls Tryd.prog 48 #[.slice A0 l0.length c0, .int .i64 a1] w fun e w' => ∃ v0_ : Value, e = .returned (v0_) ∧ Kd.R (Kd.int .u64) 24 w' w.heap.size (fun _ => True) v0_ r ∧ Below w.heap.size w w' := by
  have HR0 := Aside0.mk hr0
  have HC0 := Aside0.mk hc0
  clear hr0 hc0
  have HB := Aside0.mk (Below.refl w.heap.size w)
  have H : (samphireref02_Half.l0 k l0 a1 ([] : List Int) 0) = some r := h
  clear h
  have H' := Aside0.mk H
  clear H
  go_enter Tryd.func48, Tryd.ntmps48
  go_wp2
  go_loopg [5, 6] k (fun kq v5 v6 w' => ∃ (x5_1 : List Int) (x6_1 : Int), v6 = .int .i64 x6_1 ∧ Aside0 (samphireref02_Half.l0 kq l0 a1 x5_1 x6_1 = some r) ∧ Aside0 (kq ≤ k) ∧ Aside0 (Kd.R (Kd.int .u64) 24 w' w.heap.size (fun _ => True) v5 x5_1) ∧ Aside0 (Below w.heap.size w w'))
  case atStart => exact ⟨(([] : List Int)), (0), (by first | rfl | (simp; done) | (simp [*]; done) | (simp; exact isEmpty_bne _)), H', ⟨Nat.le_refl _⟩, ⟨by first | exact Kd.R_nil _ _ _ _ _ | exact Kd.N_nil _ _ _ _ _ | exact Kd.V_nil _ _ _ _ _ | exact Kd.Q_nil _ _ _ _ _ | exact Kd.S_nil _ _ _ _ _⟩, ⟨BL⟩⟩
  case round =>
    clear H'
    try clear p2
    obtain ⟨x5_1, x6_1, rfl, HA, HK1, HO_5, HB⟩ := hrel
    cases gk with
    | zero => exact absurd HA.out (by simp [samphireref02_Half.l0])
    | succ k1 =>
      have H := HA.out
      clear HA
      simp only [samphireref02_Half.l0] at H
      by_cases c3 : x6_1 < a1
      · rw [if_pos c3] at H
        have c3b0 : decide (x6_1 < a1) = true := decide_eq_true c3
        clear c3
        by_cases c4 : (wrap64 (Int.tdiv x6_1 2)) < (l0.length : Int)
        · rw [if_pos c4] at H
          have c4b0 : decide ((wrap64 (Int.tdiv x6_1 2)) < (l0.length : Int)) = true := decide_eq_true c4
          clear c4
          obtain ⟨ji5, hji5⟩ := let_j (wrap64 (Int.tdiv x6_1 2))
          (first | rw [hji5] at H | simp only [hji5] at H ⊢)
          (try rw [hji5] at c4b0)
          have hji5w : (IntKind.i64.wrap (Int.tdiv x6_1 2)) = ji5 := (i64_w _).trans hji5
          obtain ⟨c6, H⟩ := ite_p H
          have c6b0 : decide (0 ≤ (ji5)) = true := decide_eq_true c6
          clear c6
          by_cases c7 : (Int.tmod x6_1 2) = 0
          · rw [if_pos c7] at H
            have c7b0 : ((Int.tmod x6_1 2) == 0) = true := beq_iff_eq.mpr c7
            have c7b1 : ((Int.tmod x6_1 2) != 0) = false := bne_eq_false_iff_eq.mpr c7
            clear c7
            obtain ⟨c8, H⟩ := ite_p H
            have LMc8 := Aside0.mk c8
            clear c8
            obtain ⟨y319, Ny319⟩ := let_p (x5_1 ++ [Int.tmod (IntKind.u64.wrap (rd l0 (ji5))) 65536] : List Int)
            (first | rw [← Ny319.out] at H | simp only [← Ny319.out] at H)
            have H' := Aside0.mk H
            clear H
            have p318 : 0 ≤ ((ji5) : Int) := DA
            have q318 : (ji5) < (l0.length : Int) := DA
            obtain ⟨ad318, e318, hx318_0⟩ := Kd.at_int HR0.out (ji5) p318 q318
            cases e318
            replace hx318_0 := (HB.out.cell (World.block_lt_of_cell? w _ hx318_0)).trans hx318_0
            replace p318 := eq_true p318
            replace q318 := eq_true q318
            go_wp2_with (first | ((with_reducible refine gate_builtin (b := .append) (xs := #[.tmp 27, .tmp 30]) rfl ?_); at_builtin; refine Kd.R_append (Kd.int .u64) (w0 := w) w.heap.size rfl (.tmp 27) (.tmp 30) 55 24 (.int .u64 0) 8 rfl Tryd.underlying55 info24 rfl (by decide) (by omega) u5 x5_1 (Int.tmod (IntKind.u64.wrap (rd l0 (ji5))) 65536) [.int .u64 (Int.tmod (IntKind.u64.wrap (rd l0 (ji5))) 65536)] (fun _ => True) (fun _ => False) rfl rfl ?aP (fun _ hk => hk.elim) ?aF ?aO ?aB ?aS ?aL ?_; (case aP => exact rfl); (case aB => exact BL); (case aF => exact (fun _ _ => trivial)); (case aO => exact (RL HO_5)); (case aS => exact (below_size BL)); (case aL => have := LMc8.out; omega); intro v320 w9 ho hb hg hat; rw [← Ny319.out] at ho; have n0_ := Aside0.mk (hb); have n1_ := Aside0.mk (ho); clear HB; clear HO_5; have HB := n0_; have HO321 := n1_; clear n0_ n1_; clear ho hb hg hat))
            go_roundg k1
            case measure => have := HK1.out; omega
            case rel => exact ⟨(y319), (wrap64 (x6_1 + 1)), (by first | rfl | (simp; done) | (simp [*]; done) | (simp; exact isEmpty_bne _)), H', ⟨by have := HK1.out; omega⟩, ⟨by (with_reducible repeat (first | apply Kd.R_alloc | apply Kd.R_drewN | apply Kd.R_drew)); exact HO321.out⟩, ⟨BL⟩⟩
          · rw [if_neg c7] at H
            have c7b0 : ((Int.tmod x6_1 2) == 0) = false := beq_eq_false_iff_ne.mpr c7
            have c7b1 : ((Int.tmod x6_1 2) != 0) = true := bne_iff_ne.mpr c7
            obtain ⟨c10, H⟩ := ite_p H
            have LMc10 := Aside0.mk c10
            clear c10
            obtain ⟨y322, Ny322⟩ := let_p (x5_1 ++ [IntKind.u64.wrap (Int.tdiv (IntKind.u64.wrap (rd l0 (ji5))) 65536)] : List Int)
            (first | rw [← Ny322.out] at H | simp only [← Ny322.out] at H)
            have H' := Aside0.mk H
            clear H
            have p318 : 0 ≤ ((ji5) : Int) := DA
            have q318 : (ji5) < (l0.length : Int) := DA
            obtain ⟨ad318, e318, hx318_0⟩ := Kd.at_int HR0.out (ji5) p318 q318
            cases e318
            replace hx318_0 := (HB.out.cell (World.block_lt_of_cell? w _ hx318_0)).trans hx318_0
            replace p318 := eq_true p318
            replace q318 := eq_true q318
            go_wp2_with (first | ((with_reducible refine gate_builtin (b := .append) (xs := #[.tmp 32, .tmp 35]) rfl ?_); at_builtin; refine Kd.R_append (Kd.int .u64) (w0 := w) w.heap.size rfl (.tmp 32) (.tmp 35) 55 24 (.int .u64 0) 8 rfl Tryd.underlying55 info24 rfl (by decide) (by omega) u5 x5_1 (IntKind.u64.wrap (Int.tdiv (IntKind.u64.wrap (rd l0 (ji5))) 65536)) [.int .u64 (IntKind.u64.wrap (Int.tdiv (IntKind.u64.wrap (rd l0 (ji5))) 65536))] (fun _ => True) (fun _ => False) rfl rfl ?aP (fun _ hk => hk.elim) ?aF ?aO ?aB ?aS ?aL ?_; (case aP => exact rfl); (case aB => exact BL); (case aF => exact (fun _ _ => trivial)); (case aO => exact (RL HO_5)); (case aS => exact (below_size BL)); (case aL => have := LMc10.out; omega); intro v323 w11 ho hb hg hat; rw [← Ny322.out] at ho; have n0_ := Aside0.mk (hb); have n1_ := Aside0.mk (ho); clear HB; clear HO_5; have HB := n0_; have HO324 := n1_; clear n0_ n1_; clear ho hb hg hat))
            go_roundg k1
            case measure => have := HK1.out; omega
            case rel => exact ⟨(y322), (wrap64 (x6_1 + 1)), (by first | rfl | (simp; done) | (simp [*]; done) | (simp; exact isEmpty_bne _)), H', ⟨by have := HK1.out; omega⟩, ⟨by (with_reducible repeat (first | apply Kd.R_alloc | apply Kd.R_drewN | apply Kd.R_drew)); exact HO324.out⟩, ⟨BL⟩⟩
        · rw [if_neg c4] at H
          have c4b0 : decide ((wrap64 (Int.tdiv x6_1 2)) < (l0.length : Int)) = false := decide_eq_false c4
          clear c4
          by_cases c12 : (Int.tmod x6_1 2) = 0
          · rw [if_pos c12] at H
            have c12b0 : ((Int.tmod x6_1 2) == 0) = true := beq_iff_eq.mpr c12
            have c12b1 : ((Int.tmod x6_1 2) != 0) = false := bne_eq_false_iff_eq.mpr c12
            clear c12
            obtain ⟨c13, H⟩ := ite_p H
            have LMc13 := Aside0.mk c13
            clear c13
            obtain ⟨y325, Ny325⟩ := let_p (x5_1 ++ [0] : List Int)
            (first | rw [← Ny325.out] at H | simp only [← Ny325.out] at H)
            have H' := Aside0.mk H
            clear H
            go_wp2_with (first | ((with_reducible refine gate_builtin (b := .append) (xs := #[.tmp 27, .tmp 30]) rfl ?_); at_builtin; refine Kd.R_append (Kd.int .u64) (w0 := w) w.heap.size rfl (.tmp 27) (.tmp 30) 55 24 (.int .u64 0) 8 rfl Tryd.underlying55 info24 rfl (by decide) (by omega) u5 x5_1 0 [.int .u64 0] (fun _ => True) (fun _ => False) rfl rfl ?aP (fun _ hk => hk.elim) ?aF ?aO ?aB ?aS ?aL ?_; (case aP => exact rfl); (case aB => exact BL); (case aF => exact (fun _ _ => trivial)); (case aO => exact (RL HO_5)); (case aS => exact (below_size BL)); (case aL => have := LMc13.out; omega); intro v326 w14 ho hb hg hat; rw [← Ny325.out] at ho; have n0_ := Aside0.mk (hb); have n1_ := Aside0.mk (ho); clear HB; clear HO_5; have HB := n0_; have HO327 := n1_; clear n0_ n1_; clear ho hb hg hat))
            go_roundg k1
            case measure => have := HK1.out; omega
            case rel => exact ⟨(y325), (wrap64 (x6_1 + 1)), (by first | rfl | (simp; done) | (simp [*]; done) | (simp; exact isEmpty_bne _)), H', ⟨by have := HK1.out; omega⟩, ⟨by (with_reducible repeat (first | apply Kd.R_alloc | apply Kd.R_drewN | apply Kd.R_drew)); exact HO327.out⟩, ⟨BL⟩⟩
          · rw [if_neg c12] at H
            have c12b0 : ((Int.tmod x6_1 2) == 0) = false := beq_eq_false_iff_ne.mpr c12
            have c12b1 : ((Int.tmod x6_1 2) != 0) = true := bne_iff_ne.mpr c12
            obtain ⟨c15, H⟩ := ite_p H
            have LMc15 := Aside0.mk c15
            clear c15
            obtain ⟨y328, Ny328⟩ := let_p (x5_1 ++ [0] : List Int)
            (first | rw [← Ny328.out] at H | simp only [← Ny328.out] at H)
            have H' := Aside0.mk H
            clear H
            go_wp2_with (first | ((with_reducible refine gate_builtin (b := .append) (xs := #[.tmp 32, .tmp 35]) rfl ?_); at_builtin; refine Kd.R_append (Kd.int .u64) (w0 := w) w.heap.size rfl (.tmp 32) (.tmp 35) 55 24 (.int .u64 0) 8 rfl Tryd.underlying55 info24 rfl (by decide) (by omega) u5 x5_1 0 [.int .u64 0] (fun _ => True) (fun _ => False) rfl rfl ?aP (fun _ hk => hk.elim) ?aF ?aO ?aB ?aS ?aL ?_; (case aP => exact rfl); (case aB => exact BL); (case aF => exact (fun _ _ => trivial)); (case aO => exact (RL HO_5)); (case aS => exact (below_size BL)); (case aL => have := LMc15.out; omega); intro v329 w16 ho hb hg hat; rw [← Ny328.out] at ho; have n0_ := Aside0.mk (hb); have n1_ := Aside0.mk (ho); clear HB; clear HO_5; have HB := n0_; have HO330 := n1_; clear n0_ n1_; clear ho hb hg hat))
            go_roundg k1
            case measure => have := HK1.out; omega
            case rel => exact ⟨(y328), (wrap64 (x6_1 + 1)), (by first | rfl | (simp; done) | (simp [*]; done) | (simp; exact isEmpty_bne _)), H', ⟨by have := HK1.out; omega⟩, ⟨by (with_reducible repeat (first | apply Kd.R_alloc | apply Kd.R_drewN | apply Kd.R_drew)); exact HO330.out⟩, ⟨BL⟩⟩
      · rw [if_neg c3] at H
        have c3b0 : decide (x6_1 < a1) = false := decide_eq_false c3
        clear c3
        obtain rfl := Option.some.inj H
        go_wp2
        go_ret
        exact ⟨_, by first | rfl | (simp [errW_none, errW_some] <;> rfl) | (simp [*, errW_none, errW_some] <;> rfl), by (with_reducible repeat (first | apply Kd.R_alloc | apply Kd.R_drewN | apply Kd.R_drew)); exact HO_5.out, BL⟩

/-! ### samphireref02_Sub: function 53 -/
set_option maxHeartbeats 8000000 in
set_option maxRecDepth 100000 in
theorem samphireref02_Sub.calls (k : Nat) (A0 : Option Addr) (c0 : Nat) (l0 : List Int) (A1 : Option Addr) (c1 : Nat) (l1 : List Int) (r : List Int) (w : World) (hr0 : Kd.C (Kd.int .u32) w A0 l0.length l0) (hc0 : l0.length ≤ c0) (hr1 : Kd.C (Kd.int .u32) w A1 l1.length l1) (hc1 : l1.length ≤ c1) (h : samphireref02_Sub.f k l0 l1 = some r) :
    Calls Tryd.prog 53 #[.slice A0 l0.length c0, .slice A1 l1.length c1] w fun e w' => ∃ v0_ : Value, e = .returned (v0_) ∧ Kd.R (Kd.int .u32) 34 w' w.heap.size (fun _ => True) v0_ r ∧ Below w.heap.size w w' := by
  have HR0 := Aside0.mk hr0
  have HC0 := Aside0.mk hc0
  clear hr0 hc0
  have HR1 := Aside0.mk hr1
  have HC1 := Aside0.mk hc1
  clear hr1 hc1
  have HB := Aside0.mk (Below.refl w.heap.size w)
  have H : ((samphireref02_Half.f k l0 (wrap64 (2 * (l0.length : Int)))).bind fun t331 => ((samphireref02_Half.f k l1 (wrap64 (2 * (l0.length : Int)))).bind fun t334 => (samphireref02_Sub.l0 k (wrap64 (2 * (l0.length : Int))) t331 t334 0 0))) = some r := h
  clear h
  obtain ⟨t331, A3, H⟩ := bind_p H
  obtain ⟨t334, A4, H⟩ := bind_p H
  have H' := Aside0.mk H
  clear H
  go_enter Tryd.func53, Tryd.ntmps53
  go_wp2_with (first | (go_at_call 48; (with_reducible refine (samphireref02_Half.calls k _ _ l0 (wrap64 (2 * (l0.length : Int))) t331 _ ?side1 ?side2 A3.out).mono ?_); (case side1 => repeat (first | exact HR0.out | (with_reducible refine Kd.C_alloc ?_ _) | (with_reducible refine Kd.C_drewN ?_ _) | (with_reducible refine Kd.C_drew ?_))); (case side2 => exact HC0.out); rintro e w5 ⟨v332, rfl, ho0, hb⟩; have n0_ := Aside0.mk (Kd.R_lower ho0 (below_size BL)); have n1_ := Aside0.mk (below_step BL hb); clear HB; have HO333 := n0_; have HB := n1_; clear n0_ n1_; (try clear hb); (try clear hb2); (try clear hk); (try clear hi); (try clear ho0)) | (go_at_call 48; (with_reducible refine (samphireref02_Half.calls k _ _ l1 (wrap64 (2 * (l0.length : Int))) t334 _ ?side1 ?side2 A4.out).mono ?_); (case side1 => exact CB HR1); (case side2 => exact HC1.out); rintro e w6 ⟨v335, rfl, ho0, hb⟩; have n0_ := Aside0.mk (Kd.R_elder' (RL HO333) (Kd.R_base ho0) hb); have n1_ := Aside0.mk (Kd.R_lower (Kd.R_new' ho0 (Kd.R_lt (RL HO333))) (below_size BL)); have n2_ := Aside0.mk (below_step BL hb); clear HO333; clear HB; have HO333 := n0_; have HO336 := n1_; have HB := n2_; clear n0_ n1_ n2_; (try clear hb); (try clear hb2); (try clear hk); (try clear hi); (try clear ho0)))
  repeat (go_quiet (first | (go_at_call 48; (with_reducible refine (samphireref02_Half.calls k _ _ l0 (wrap64 (2 * (l0.length : Int))) t331 _ ?side1 ?side2 A3.out).mono ?_); (case side1 => repeat (first | exact HR0.out | (with_reducible refine Kd.C_alloc ?_ _) | (with_reducible refine Kd.C_drewN ?_ _) | (with_reducible refine Kd.C_drew ?_))); (case side2 => exact HC0.out); rintro e w5 ⟨v332, rfl, ho0, hb⟩; have n0_ := Aside0.mk (Kd.R_lower ho0 (below_size BL)); have n1_ := Aside0.mk (below_step BL hb); clear HB; have HO333 := n0_; have HB := n1_; clear n0_ n1_; (try clear hb); (try clear hb2); (try clear hk); (try clear hi); (try clear ho0)) | (go_at_call 48; (with_reducible refine (samphireref02_Half.calls k _ _ l1 (wrap64 (2 * (l0.length : Int))) t334 _ ?side1 ?side2 A4.out).mono ?_); (case side1 => exact CB HR1); (case side2 => exact HC1.out); rintro e w6 ⟨v335, rfl, ho0, hb⟩; have n0_ := Aside0.mk (Kd.R_elder' (RL HO333) (Kd.R_base ho0) hb); have n1_ := Aside0.mk (Kd.R_lower (Kd.R_new' ho0 (Kd.R_lt (RL HO333))) (below_size BL)); have n2_ := Aside0.mk (below_step BL hb); clear HO333; clear HB; have HO333 := n0_; have HO336 := n1_; have HB := n2_; clear n0_ n1_ n2_; (try clear hb); (try clear hb2); (try clear hk); (try clear hi); (try clear ho0))); try go_wp2_with (first | (go_at_call 48; (with_reducible refine (samphireref02_Half.calls k _ _ l0 (wrap64 (2 * (l0.length : Int))) t331 _ ?side1 ?side2 A3.out).mono ?_); (case side1 => repeat (first | exact HR0.out | (with_reducible refine Kd.C_alloc ?_ _) | (with_reducible refine Kd.C_drewN ?_ _) | (with_reducible refine Kd.C_drew ?_))); (case side2 => exact HC0.out); rintro e w5 ⟨v332, rfl, ho0, hb⟩; have n0_ := Aside0.mk (Kd.R_lower ho0 (below_size BL)); have n1_ := Aside0.mk (below_step BL hb); clear HB; have HO333 := n0_; have HB := n1_; clear n0_ n1_; (try clear hb); (try clear hb2); (try clear hk); (try clear hi); (try clear ho0)) | (go_at_call 48; (with_reducible refine (samphireref02_Half.calls k _ _ l1 (wrap64 (2 * (l0.length : Int))) t334 _ ?side1 ?side2 A4.out).mono ?_); (case side1 => exact CB HR1); (case side2 => exact HC1.out); rintro e w6 ⟨v335, rfl, ho0, hb⟩; have n0_ := Aside0.mk (Kd.R_elder' (RL HO333) (Kd.R_base ho0) hb); have n1_ := Aside0.mk (Kd.R_lower (Kd.R_new' ho0 (Kd.R_lt (RL HO333))) (below_size BL)); have n2_ := Aside0.mk (below_step BL hb); clear HO333; clear HB; have HO333 := n0_; have HO336 := n1_; have HB := n2_; clear n0_ n1_ n2_; (try clear hb); (try clear hb2); (try clear hk); (try clear hi); (try clear ho0))))
  go_loopg [8, 9] k (fun kq v8 v9 w' => ∃ (x6_1 : List Int) (x8_1 : Int) (x9_1 : Int), v8 = .int .u64 x8_1 ∧ v9 = .int .i64 x9_1 ∧ Aside0 (samphireref02_Sub.l0 kq (wrap64 (2 * (l0.length : Int))) x6_1 t334 x8_1 x9_1 = some r) ∧ Aside0 (kq ≤ k) ∧ Aside0 (Kd.R (Kd.int .u64) 24 w' w.heap.size (fun k_ => some k_ ≠ (v335 : Value).ownBlock) v332 x6_1) ∧ Aside0 (Kd.R (Kd.int .u64) 24 w' w.heap.size (fun k_ => some k_ ≠ (v332 : Value).ownBlock) v335 t334) ∧ Aside0 (Below w.heap.size w w'))
  case atStart => exact ⟨(t331), (0), (0), (by first | rfl | (simp; done) | (simp [*]; done) | (simp; exact isEmpty_bne _)), (by first | rfl | (simp; done) | (simp [*]; done) | (simp; exact isEmpty_bne _)), H', ⟨Nat.le_refl _⟩, ⟨by (with_reducible repeat (first | apply Kd.R_alloc | apply Kd.R_drewN | apply Kd.R_drew)); exact Kd.R_mono HO333.out (fun _ hk => hk.2)⟩, ⟨by (with_reducible repeat (first | apply Kd.R_alloc | apply Kd.R_drewN | apply Kd.R_drew)); exact Kd.R_mono HO336.out (fun _ hk => hk.2)⟩, ⟨BL⟩⟩
  case round =>
    clear H'
    try clear c1
    try clear p2
    try clear c5
    try clear p6
    obtain ⟨x6_1, x8_1, x9_1, rfl, rfl, HA, HK1, HO_6, HO_7, HB⟩ := hrel
    cases gk with
    | zero => exact absurd HA.out (by simp [samphireref02_Sub.l0])
    | succ k1 =>
      have H := HA.out
      clear HA
      simp only [samphireref02_Sub.l0] at H
      by_cases c7 : x9_1 < (wrap64 (2 * (l0.length : Int)))
      · rw [if_pos c7] at H
        have c7b0 : decide (x9_1 < (wrap64 (2 * (l0.length : Int)))) = true := decide_eq_true c7
        clear c7
        obtain ⟨c8, H⟩ := ite_p H
        have c8b0 : decide (0 ≤ x9_1) = true := decide_eq_true c8
        clear c8
        obtain ⟨c9, H⟩ := ite_p H
        have c9b0 : decide (x9_1 < (x6_1.length : Int)) = true := decide_eq_true c9
        clear c9
        obtain ⟨c10, H⟩ := ite_p H
        have c10b0 : decide (x9_1 < (t334.length : Int)) = true := decide_eq_true c10
        clear c10
        obtain ⟨y339, Ny339⟩ := let_p (x6_1.set (x9_1 : Int).toNat (Int.tmod (IntKind.u64.wrap ((IntKind.u64.wrap ((IntKind.u64.wrap (65536 + (rd x6_1 x9_1))) - (rd t334 x9_1))) - x8_1)) 65536) : List Int)
        (first | rw [← Ny339.out] at H | simp only [← Ny339.out] at H)
        have H' := Aside0.mk H
        clear H
        obtain ⟨Ao12, co12, eo12⟩ := Kd.R_slice HO_6.out
        subst eo12
        have p337 : 0 ≤ (x9_1 : Int) := DA
        have q337 : x9_1 < (x6_1.length : Int) := DA
        obtain ⟨ad337, e337, hx337_0⟩ := Kd.at_int (Kd.R_reads' HO_6.out).2.2 x9_1 p337 q337
        cases e337
        replace p337 := eq_true p337
        replace q337 := eq_true q337
        obtain ⟨Ao13, co13, eo13⟩ := Kd.R_slice HO_7.out
        subst eo13
        have p338 : 0 ≤ (x9_1 : Int) := DA
        have q338 : x9_1 < (t334.length : Int) := DA
        obtain ⟨ad338, e338, hx338_0⟩ := Kd.at_int (Kd.R_reads' HO_7.out).2.2 x9_1 p338 q338
        cases e338
        replace p338 := eq_true p338
        replace q338 := eq_true q338
        have p11 : 0 ≤ (x9_1 : Int) := DA
        have q11 : (x9_1 : Int) < ((x6_1.length : Int) : Int) := DA
        obtain ⟨go11, co11, eo11, gb11, gl11, cl11, HG11⟩ := Kd.R_form HO_6.out (by omega)
        (first | cases eo11 | (injection eo11 with ea_ en_ ec_; (first | subst ea_ | (injection ea_ with ea_; subst ea_)); subst ec_; clear en_))
        have GB11 := Aside0.mk gb11
        have GG11 := Aside0.mk HG11
        clear gb11 gl11 HG11
        (first | simp only [add_plain] at hx337_0 | skip)
        obtain ⟨hx11_0, hf11_0⟩ := Kd.R_celln 0 HO_6.out (x9_1 : Int) p11 q11
        replace p11 := eq_true p11
        replace q11 := eq_true q11
        have HP14 := Kd.R_putg HO_6.out (x9_1 : Int) (Int.tmod (IntKind.u64.wrap ((IntKind.u64.wrap ((IntKind.u64.wrap (65536 + (rd x6_1 x9_1))) - (rd t334 x9_1))) - x8_1)) 65536)
        go_wp2_with (first | ((with_reducible refine gate_store (t := 24) (p := 41) rfl ?_); (try (rw [drewN_self wr]; generalize hq_ : World.drewN wr _ = wr; have n0_ := Aside0.mk (Kd.R_at hq_ HO_6.out); have n1_ := Aside0.mk (Kd.R_at hq_ HO_7.out); have n2_ := Aside0.mk (below_at hq_ HB.out); clear hq_ HO_6 HO_7 HB; have HO_6 := n0_; have HO_7 := n1_; have HB := n2_; clear n0_ n1_ n2_; (try (obtain ⟨hx11_0, hf11_0⟩ := Kd.R_celln 0 HO_6.out (x9_1 : Int) (of_eq_true p11) (of_eq_true q11))); (try (have HP14 := Kd.R_putg HO_6.out (x9_1 : Int) (Int.tmod (IntKind.u64.wrap ((IntKind.u64.wrap ((IntKind.u64.wrap (65536 + (rd x6_1 x9_1))) - (rd t334 x9_1))) - x8_1)) 65536))))); refine store_event (t := 24) (p := 41) (v := ?vo_w15) (w1 := (wr.setCell ⟨go11, (x9_1 : Int).toNat, none⟩ (.int .u64 (Int.tmod (IntKind.u64.wrap ((IntKind.u64.wrap ((IntKind.u64.wrap (65536 + (rd x6_1 x9_1))) - (rd t334 x9_1))) - x8_1)) 65536)))) ?hg ?ho ?hn ?hr ?_; (case ho => rfl); (case hg => rfl); (case hn => rfl); (case hr => first | (go_simp; done) | (go_simp; rfl)); intro w15 hw; have hg : wr.grownBy w15 (some go11) := (by rw [hw]; exact HP14.2); have hp_ : Kd.R (Kd.int .u64) 24 w15 w.heap.size (fun k_ => some k_ ≠ (.slice (some ad338) t334.length co13 : Value).ownBlock) (.slice (some ⟨go11, 0, none⟩) x6_1.length co12) y339 := (by rw [hw, Ny339.out]; exact HP14.1); clear HP14; have n0_ := Aside0.mk (hp_); have n1_ := Aside0.mk (Kd.R_after (v := (.slice (some ⟨go11, 0, none⟩) x6_1.length co12)) (v1 := (.slice (some ⟨go11, 0, none⟩) x6_1.length co12)) (ok := (fun _ => True)) (by (with_reducible repeat (first | apply Kd.R_alloc | apply Kd.R_drewN | apply Kd.R_drew)); exact Kd.R_mono HO_7.out (fun _ hk => ⟨trivial, hk⟩)) hg (.inl rfl)); have n2_ := Aside0.mk ((by rw [hw]; exact below_set (HB.out) GB11.out : Below w.heap.size w w15)); clear HO_6; clear HO_7; clear HB; have HO_6 := n0_; have HO_7 := n1_; have HB := n2_; clear n0_ n1_ n2_; clear hg hw hp_))
        repeat (go_quiet (first | ((with_reducible refine gate_store (t := 24) (p := 41) rfl ?_); (try (rw [drewN_self wr]; generalize hq_ : World.drewN wr _ = wr; have n0_ := Aside0.mk (Kd.R_at hq_ HO_6.out); have n1_ := Aside0.mk (Kd.R_at hq_ HO_7.out); have n2_ := Aside0.mk (below_at hq_ HB.out); clear hq_ HO_6 HO_7 HB; have HO_6 := n0_; have HO_7 := n1_; have HB := n2_; clear n0_ n1_ n2_; (try (obtain ⟨hx11_0, hf11_0⟩ := Kd.R_celln 0 HO_6.out (x9_1 : Int) (of_eq_true p11) (of_eq_true q11))); (try (have HP14 := Kd.R_putg HO_6.out (x9_1 : Int) (Int.tmod (IntKind.u64.wrap ((IntKind.u64.wrap ((IntKind.u64.wrap (65536 + (rd x6_1 x9_1))) - (rd t334 x9_1))) - x8_1)) 65536))))); refine store_event (t := 24) (p := 41) (v := ?vo_w15) (w1 := (wr.setCell ⟨go11, (x9_1 : Int).toNat, none⟩ (.int .u64 (Int.tmod (IntKind.u64.wrap ((IntKind.u64.wrap ((IntKind.u64.wrap (65536 + (rd x6_1 x9_1))) - (rd t334 x9_1))) - x8_1)) 65536)))) ?hg ?ho ?hn ?hr ?_; (case ho => rfl); (case hg => rfl); (case hn => rfl); (case hr => first | (go_simp; done) | (go_simp; rfl)); intro w15 hw; have hg : wr.grownBy w15 (some go11) := (by rw [hw]; exact HP14.2); have hp_ : Kd.R (Kd.int .u64) 24 w15 w.heap.size (fun k_ => some k_ ≠ (.slice (some ad338) t334.length co13 : Value).ownBlock) (.slice (some ⟨go11, 0, none⟩) x6_1.length co12) y339 := (by rw [hw, Ny339.out]; exact HP14.1); clear HP14; have n0_ := Aside0.mk (hp_); have n1_ := Aside0.mk (Kd.R_after (v := (.slice (some ⟨go11, 0, none⟩) x6_1.length co12)) (v1 := (.slice (some ⟨go11, 0, none⟩) x6_1.length co12)) (ok := (fun _ => True)) (by (with_reducible repeat (first | apply Kd.R_alloc | apply Kd.R_drewN | apply Kd.R_drew)); exact Kd.R_mono HO_7.out (fun _ hk => ⟨trivial, hk⟩)) hg (.inl rfl)); have n2_ := Aside0.mk ((by rw [hw]; exact below_set (HB.out) GB11.out : Below w.heap.size w w15)); clear HO_6; clear HO_7; clear HB; have HO_6 := n0_; have HO_7 := n1_; have HB := n2_; clear n0_ n1_ n2_; clear hg hw hp_)); try go_wp2_with (first | ((with_reducible refine gate_store (t := 24) (p := 41) rfl ?_); (try (rw [drewN_self wr]; generalize hq_ : World.drewN wr _ = wr; have n0_ := Aside0.mk (Kd.R_at hq_ HO_6.out); have n1_ := Aside0.mk (Kd.R_at hq_ HO_7.out); have n2_ := Aside0.mk (below_at hq_ HB.out); clear hq_ HO_6 HO_7 HB; have HO_6 := n0_; have HO_7 := n1_; have HB := n2_; clear n0_ n1_ n2_; (try (obtain ⟨hx11_0, hf11_0⟩ := Kd.R_celln 0 HO_6.out (x9_1 : Int) (of_eq_true p11) (of_eq_true q11))); (try (have HP14 := Kd.R_putg HO_6.out (x9_1 : Int) (Int.tmod (IntKind.u64.wrap ((IntKind.u64.wrap ((IntKind.u64.wrap (65536 + (rd x6_1 x9_1))) - (rd t334 x9_1))) - x8_1)) 65536))))); refine store_event (t := 24) (p := 41) (v := ?vo_w15) (w1 := (wr.setCell ⟨go11, (x9_1 : Int).toNat, none⟩ (.int .u64 (Int.tmod (IntKind.u64.wrap ((IntKind.u64.wrap ((IntKind.u64.wrap (65536 + (rd x6_1 x9_1))) - (rd t334 x9_1))) - x8_1)) 65536)))) ?hg ?ho ?hn ?hr ?_; (case ho => rfl); (case hg => rfl); (case hn => rfl); (case hr => first | (go_simp; done) | (go_simp; rfl)); intro w15 hw; have hg : wr.grownBy w15 (some go11) := (by rw [hw]; exact HP14.2); have hp_ : Kd.R (Kd.int .u64) 24 w15 w.heap.size (fun k_ => some k_ ≠ (.slice (some ad338) t334.length co13 : Value).ownBlock) (.slice (some ⟨go11, 0, none⟩) x6_1.length co12) y339 := (by rw [hw, Ny339.out]; exact HP14.1); clear HP14; have n0_ := Aside0.mk (hp_); have n1_ := Aside0.mk (Kd.R_after (v := (.slice (some ⟨go11, 0, none⟩) x6_1.length co12)) (v1 := (.slice (some ⟨go11, 0, none⟩) x6_1.length co12)) (ok := (fun _ => True)) (by (with_reducible repeat (first | apply Kd.R_alloc | apply Kd.R_drewN | apply Kd.R_drew)); exact Kd.R_mono HO_7.out (fun _ hk => ⟨trivial, hk⟩)) hg (.inl rfl)); have n2_ := Aside0.mk ((by rw [hw]; exact below_set (HB.out) GB11.out : Below w.heap.size w w15)); clear HO_6; clear HO_7; clear HB; have HO_6 := n0_; have HO_7 := n1_; have HB := n2_; clear n0_ n1_ n2_; clear hg hw hp_)))
        go_roundg k1
        case measure => have := HK1.out; omega
        case rel => exact ⟨(y339), (IntKind.u64.wrap (1 - (IntKind.u64.wrap (Int.tdiv (IntKind.u64.wrap ((IntKind.u64.wrap ((IntKind.u64.wrap (65536 + (rd x6_1 x9_1))) - (rd t334 x9_1))) - x8_1)) 65536)))), (wrap64 (x9_1 + 1)), (by first | rfl | (simp; done) | (simp [*]; done) | (simp; exact isEmpty_bne _)), (by first | rfl | (simp; done) | (simp [*]; done) | (simp; exact isEmpty_bne _)), H', ⟨by have := HK1.out; omega⟩, ⟨by (with_reducible repeat (first | apply Kd.R_alloc | apply Kd.R_drewN | apply Kd.R_drew)); exact HO_6.out⟩, ⟨by (with_reducible repeat (first | apply Kd.R_alloc | apply Kd.R_drewN | apply Kd.R_drew)); exact Kd.R_mono HO_7.out (fun _ hk => hk.2)⟩, ⟨BL⟩⟩
      · rw [if_neg c7] at H
        have c7b0 : decide (x9_1 < (wrap64 (2 * (l0.length : Int)))) = false := decide_eq_false c7
        clear c7
        obtain ⟨t340, A16, H⟩ := bind_p H
        obtain rfl := Option.some.inj H
        obtain ⟨Ao17, co17, eo17⟩ := Kd.R_slice HO_6.out
        subst eo17
        go_wp2_with (first | (go_at_call 37; (with_reducible refine (samphireref02_Whole.calls k1 _ _ x6_1 t340 _ ?side1 ?side2 A16.out).mono ?_); (case side1 => exact RR HO_6); (case side2 => exact (Kd.R_reads' HO_6.out).2.1); rintro e w18 ⟨v341, rfl, ho0, hb⟩; have n0_ := Aside0.mk (Kd.R_below (RL HO_6) hb); have n1_ := Aside0.mk (Kd.R_below (RL HO_7) hb); have n2_ := Aside0.mk (Kd.R_lower ho0 (below_size BL)); have n3_ := Aside0.mk (below_step BL hb); clear HO_6; clear HO_7; clear HB; have HO_6 := n0_; have HO_7 := n1_; have HO342 := n2_; have HB := n3_; clear n0_ n1_ n2_ n3_; (try clear hb); (try clear hb2); (try clear hk); (try clear hi); (try clear ho0)))
        repeat (go_quiet (first | (go_at_call 37; (with_reducible refine (samphireref02_Whole.calls k1 _ _ x6_1 t340 _ ?side1 ?side2 A16.out).mono ?_); (case side1 => exact RR HO_6); (case side2 => exact (Kd.R_reads' HO_6.out).2.1); rintro e w18 ⟨v341, rfl, ho0, hb⟩; have n0_ := Aside0.mk (Kd.R_below (RL HO_6) hb); have n1_ := Aside0.mk (Kd.R_below (RL HO_7) hb); have n2_ := Aside0.mk (Kd.R_lower ho0 (below_size BL)); have n3_ := Aside0.mk (below_step BL hb); clear HO_6; clear HO_7; clear HB; have HO_6 := n0_; have HO_7 := n1_; have HO342 := n2_; have HB := n3_; clear n0_ n1_ n2_ n3_; (try clear hb); (try clear hb2); (try clear hk); (try clear hi); (try clear ho0))); try go_wp2_with (first | (go_at_call 37; (with_reducible refine (samphireref02_Whole.calls k1 _ _ x6_1 t340 _ ?side1 ?side2 A16.out).mono ?_); (case side1 => exact RR HO_6); (case side2 => exact (Kd.R_reads' HO_6.out).2.1); rintro e w18 ⟨v341, rfl, ho0, hb⟩; have n0_ := Aside0.mk (Kd.R_below (RL HO_6) hb); have n1_ := Aside0.mk (Kd.R_below (RL HO_7) hb); have n2_ := Aside0.mk (Kd.R_lower ho0 (below_size BL)); have n3_ := Aside0.mk (below_step BL hb); clear HO_6; clear HO_7; clear HB; have HO_6 := n0_; have HO_7 := n1_; have HO342 := n2_; have HB := n3_; clear n0_ n1_ n2_ n3_; (try clear hb); (try clear hb2); (try clear hk); (try clear hi); (try clear ho0))))
        go_ret
        exact ⟨_, by first | rfl | (simp [errW_none, errW_some] <;> rfl) | (simp [*, errW_none, errW_some] <;> rfl), by (with_reducible repeat (first | apply Kd.R_alloc | apply Kd.R_drewN | apply Kd.R_drew)); exact HO342.out, BL⟩

/-! ### samphireref02_even: function 57 -/
set_option maxHeartbeats 8000000 in
set_option maxRecDepth 100000 in
theorem samphireref02_even.calls (A0 : Option Addr) (c0 : Nat) (l0 : List Int) (r : Bool) (w : World) (hr0 : Kd.C (Kd.int .u32) w A0 l0.length l0) (hc0 : l0.length ≤ c0) (h : samphireref02_even.f l0 = some r) :
    Calls Tryd.prog 57 #[.slice A0 l0.length c0] w fun e w' => e = .returned (.bool r) ∧ Drawn0 w w' := by
  have HR0 := Aside0.mk hr0
  have HC0 := Aside0.mk hc0
  clear hr0 hc0
  have H : (if (l0.length : Int) = 0 then (some true) else (if 0 < (l0.length : Int) then (some ((Int.tmod (rd l0 0) 2) == 0)) else (none))) = some r := h
  clear h
  by_cases c2 : (l0.length : Int) = 0
  · rw [if_pos c2] at H
    have c2b0 : ((l0.length : Int) == 0) = true := beq_iff_eq.mpr c2
    have c2b1 : ((l0.length : Int) != 0) = false := bne_eq_false_iff_eq.mpr c2
    clear c2
    obtain rfl := Option.some.inj H
    go_enter Tryd.func57, Tryd.ntmps57
    go_wp2
    go_ret
    exact ⟨by first | rfl | (simp; done) | (simp [*]; done) | (simp; exact isEmpty_bne _), by repeat (first | exact Drawn0.refl _ | apply Drawn0.step)⟩
  · rw [if_neg c2] at H
    have c2b0 : ((l0.length : Int) == 0) = false := beq_eq_false_iff_ne.mpr c2
    have c2b1 : ((l0.length : Int) != 0) = true := bne_iff_ne.mpr c2
    have c2b2 : ¬ (l0 = []) := fun h_ => c2 (by rw [h_]; rfl)
    obtain ⟨c3, H⟩ := ite_p H
    have c3b0 : decide (0 < (l0.length : Int)) = true := decide_eq_true c3
    have c3b1 : decide (0 < l0.length) = true := decide_eq_true (by omega)
    clear c3
    obtain rfl := Option.some.inj H
    have p343 : 0 ≤ (0 : Int) := (by omega)
    have q343 : 0 < (l0.length : Int) := DA
    obtain ⟨ad343, e343, hx343_0⟩ := Kd.at_int HR0.out 0 p343 q343
    cases e343
    have qi343 : (0 < l0.length) = True := eq_true (by omega)
    (try rw [show ((0 : Int)).toNat = 0 from rfl] at hx343_0)
    (try rw [Addr.add_zero'] at hx343_0)
    replace p343 := eq_true p343
    replace q343 := eq_true q343
    go_enter Tryd.func57, Tryd.ntmps57
    go_wp2
    go_ret
    exact ⟨by first | rfl | (simp; done) | (simp [*]; done) | (simp; exact isEmpty_bne _), by repeat (first | exact Drawn0.refl _ | apply Drawn0.step)⟩

/-! ### samphireref02_half: function 58 -/
set_option maxHeartbeats 8000000 in
set_option maxRecDepth 100000 in
theorem samphireref02_half.calls (k : Nat) (A0 : Option Addr) (c0 : Nat) (l0 : List Int) (r : List Int) (w : World) (hr0 : Kd.C (Kd.int .u32) w A0 l0.length l0) (hc0 : l0.length ≤ c0) (h : samphireref02_half.f k l0 = some r) :
    Calls Tryd.prog 58 #[.slice A0 l0.length c0] w fun e w' => ∃ v0_ : Value, e = .returned (v0_) ∧ Kd.R (Kd.int .u32) 34 w' w.heap.size (fun _ => True) v0_ r ∧ Below w.heap.size w w' := by
  have HR0 := Aside0.mk hr0
  have HC0 := Aside0.mk hc0
  clear hr0 hc0
  have HB := Aside0.mk (Below.refl w.heap.size w)
  have H : (samphireref02_half.l0 k l0 ([] : List Int) 0) = some r := h
  clear h
  have H' := Aside0.mk H
  clear H
  go_enter Tryd.func58, Tryd.ntmps58
  go_wp2
  go_loopg [3, 4] k (fun kq v3 v4 w' => ∃ (x3_1 : List Int) (x4_1 : Int), v4 = .int .i64 x4_1 ∧ Aside0 (samphireref02_half.l0 kq l0 x3_1 x4_1 = some r) ∧ Aside0 (kq ≤ k) ∧ Aside0 (Kd.R (Kd.int .u32) 34 w' w.heap.size (fun _ => True) v3 x3_1) ∧ Aside0 (Below w.heap.size w w'))
  case atStart => exact ⟨(([] : List Int)), (0), (by first | rfl | (simp; done) | (simp [*]; done) | (simp; exact isEmpty_bne _)), H', ⟨Nat.le_refl _⟩, ⟨by first | exact Kd.R_nil _ _ _ _ _ | exact Kd.N_nil _ _ _ _ _ | exact Kd.V_nil _ _ _ _ _ | exact Kd.Q_nil _ _ _ _ _ | exact Kd.S_nil _ _ _ _ _⟩, ⟨BL⟩⟩
  case round =>
    clear H'
    obtain ⟨x3_1, x4_1, rfl, HA, HK1, HO_3, HB⟩ := hrel
    cases gk with
    | zero => exact absurd HA.out (by simp [samphireref02_half.l0])
    | succ k1 =>
      have H := HA.out
      clear HA
      simp only [samphireref02_half.l0] at H
      by_cases c2 : x4_1 < (l0.length : Int)
      · rw [if_pos c2] at H
        have c2b0 : decide (x4_1 < (l0.length : Int)) = true := decide_eq_true c2
        clear c2
        obtain ⟨c3, H⟩ := ite_p H
        have c3b0 : decide (0 ≤ x4_1) = true := decide_eq_true c3
        clear c3
        by_cases c4 : (wrap64 (x4_1 + 1)) < (l0.length : Int)
        · rw [if_pos c4] at H
          have c4b0 : decide ((wrap64 (x4_1 + 1)) < (l0.length : Int)) = true := decide_eq_true c4
          clear c4
          obtain ⟨ji5, hji5⟩ := let_j (wrap64 (x4_1 + 1))
          (first | rw [hji5] at H | simp only [hji5] at H ⊢)
          (try rw [hji5] at c4b0)
          have hji5w : (IntKind.i64.wrap (x4_1 + 1)) = ji5 := (i64_w _).trans hji5
          obtain ⟨c6, H⟩ := ite_p H
          have c6b0 : decide (0 ≤ (ji5)) = true := decide_eq_true c6
          clear c6
          obtain ⟨c7, H⟩ := ite_p H
          have LMc7 := Aside0.mk c7
          clear c7
          obtain ⟨y346, Ny346⟩ := let_p (x3_1 ++ [Go.bits .or .u32 ((rd l0 x4_1) / 2) (((rd l0 (ji5)) * 2147483648) % 4294967296)] : List Int)
          (first | rw [← Ny346.out] at H | simp only [← Ny346.out] at H)
          have H' := Aside0.mk H
          clear H
          have p344 : 0 ≤ (x4_1 : Int) := DA
          have q344 : x4_1 < (l0.length : Int) := DA
          obtain ⟨ad344, e344, hx344_0⟩ := Kd.at_int HR0.out x4_1 p344 q344
          cases e344
          replace hx344_0 := (HB.out.cell (World.block_lt_of_cell? w _ hx344_0)).trans hx344_0
          replace p344 := eq_true p344
          replace q344 := eq_true q344
          have p345 : 0 ≤ ((ji5) : Int) := DA
          have q345 : (ji5) < (l0.length : Int) := DA
          obtain ⟨ad345, e345, hx345_0⟩ := Kd.at_int HR0.out (ji5) p345 q345
          obtain rfl : ad344 = ad345 := (by injection e345)
          replace hx345_0 := (HB.out.cell (World.block_lt_of_cell? w _ hx345_0)).trans hx345_0
          replace p345 := eq_true p345
          replace q345 := eq_true q345
          go_wp2_with (first | ((with_reducible refine gate_builtin (b := .append) (xs := #[.tmp 30, .tmp 32]) rfl ?_); (try (refine gate_guard (by rfl) ?_; dsimp only)); at_builtin; refine Kd.R_append (Kd.int .u32) (w0 := w) w.heap.size rfl (.tmp 30) (.tmp 32) 23 34 (.int .u32 0) 4 rfl Tryd.underlying23 info34 rfl (by decide) (by omega) u3 x3_1 (Go.bits .or .u32 ((rd l0 x4_1) / 2) (((rd l0 (ji5)) * 2147483648) % 4294967296)) [.int .u32 (Go.bits .or .u32 ((rd l0 x4_1) / 2) (((rd l0 (ji5)) * 2147483648) % 4294967296))] (fun _ => True) (fun _ => False) rfl rfl ?aP (fun _ hk => hk.elim) ?aF ?aO ?aB ?aS ?aL ?_; (case aP => exact rfl); (case aB => exact BL); (case aF => exact (fun _ _ => trivial)); (case aO => exact (RL HO_3)); (case aS => exact (below_size BL)); (case aL => have := LMc7.out; omega); intro v347 w8 ho hb hg hat; rw [← Ny346.out] at ho; have n0_ := Aside0.mk (hb); have n1_ := Aside0.mk (ho); clear HB; clear HO_3; have HB := n0_; have HO348 := n1_; clear n0_ n1_; clear ho hb hg hat))
          go_roundg k1
          case measure => have := HK1.out; omega
          case rel => exact ⟨(y346), (ji5), (by first | rfl | (simp; done) | (simp only [← hji5] <;> (first | rfl | simp)) | (simp [*]; done)), H', ⟨by have := HK1.out; omega⟩, ⟨by (with_reducible repeat (first | apply Kd.R_alloc | apply Kd.R_drewN | apply Kd.R_drew)); exact HO348.out⟩, ⟨BL⟩⟩
        · rw [if_neg c4] at H
          have c4b0 : decide ((wrap64 (x4_1 + 1)) < (l0.length : Int)) = false := decide_eq_false c4
          clear c4
          obtain ⟨c9, H⟩ := ite_p H
          have LMc9 := Aside0.mk c9
          clear c9
          obtain ⟨y349, Ny349⟩ := let_p (x3_1 ++ [(rd l0 x4_1) / 2] : List Int)
          (first | rw [← Ny349.out] at H | simp only [← Ny349.out] at H)
          have H' := Aside0.mk H
          clear H
          have p344 : 0 ≤ (x4_1 : Int) := DA
          have q344 : x4_1 < (l0.length : Int) := DA
          obtain ⟨ad344, e344, hx344_0⟩ := Kd.at_int HR0.out x4_1 p344 q344
          cases e344
          replace hx344_0 := (HB.out.cell (World.block_lt_of_cell? w _ hx344_0)).trans hx344_0
          replace p344 := eq_true p344
          replace q344 := eq_true q344
          go_wp2_with (first | ((with_reducible refine gate_builtin (b := .append) (xs := #[.tmp 30, .tmp 32]) rfl ?_); (try (refine gate_guard (by rfl) ?_; dsimp only)); at_builtin; refine Kd.R_append (Kd.int .u32) (w0 := w) w.heap.size rfl (.tmp 30) (.tmp 32) 23 34 (.int .u32 0) 4 rfl Tryd.underlying23 info34 rfl (by decide) (by omega) u3 x3_1 ((rd l0 x4_1) / 2) [.int .u32 ((rd l0 x4_1) / 2)] (fun _ => True) (fun _ => False) rfl rfl ?aP (fun _ hk => hk.elim) ?aF ?aO ?aB ?aS ?aL ?_; (case aP => exact rfl); (case aB => exact BL); (case aF => exact (fun _ _ => trivial)); (case aO => exact (RL HO_3)); (case aS => exact (below_size BL)); (case aL => have := LMc9.out; omega); intro v350 w10 ho hb hg hat; rw [← Ny349.out] at ho; have n0_ := Aside0.mk (hb); have n1_ := Aside0.mk (ho); clear HB; clear HO_3; have HB := n0_; have HO351 := n1_; clear n0_ n1_; clear ho hb hg hat))
          go_roundg k1
          case measure => have := HK1.out; omega
          case rel => exact ⟨(y349), (wrap64 (x4_1 + 1)), (by first | rfl | (simp; done) | (simp [*]; done) | (simp; exact isEmpty_bne _)), H', ⟨by have := HK1.out; omega⟩, ⟨by (with_reducible repeat (first | apply Kd.R_alloc | apply Kd.R_drewN | apply Kd.R_drew)); exact HO351.out⟩, ⟨BL⟩⟩
      · rw [if_neg c2] at H
        have c2b0 : decide (x4_1 < (l0.length : Int)) = false := decide_eq_false c2
        clear c2
        have H' := Aside0.mk H
        clear H
        go_wp2
        go_loopg [3] k1 (fun kq v3 w' => ∃ (x3_2 : List Int), Aside0 (samphireref02_half.l1 kq x3_2 = some r) ∧ Aside0 (kq ≤ k1) ∧ Aside0 (Kd.R (Kd.int .u32) 34 w' w.heap.size (fun _ => True) v3 x3_2) ∧ Aside0 (Below w.heap.size w w'))
        case atStart => exact ⟨(x3_1), H', ⟨Nat.le_refl _⟩, ⟨by (with_reducible repeat (first | apply Kd.R_alloc | apply Kd.R_drewN | apply Kd.R_drew)); exact HO_3.out⟩, ⟨BL⟩⟩
        case round =>
          clear H'
          try clear c2
          try clear c2b0
          try clear p2
          try clear c3
          try clear c3b0
          try clear p3
          try clear q3
          try clear hx3
          try clear c4
          try clear c4b0
          try clear c5
          try clear c6
          try clear c6b0
          try clear p6
          try clear c7
          try clear c9
          try clear hx344_0
          try clear hx345_0
          try clear p344
          try clear p345
          try clear q344
          try clear q345
          obtain ⟨x3_2, HA, HK2, HO_3, HB⟩ := hrel
          cases gk with
          | zero => exact absurd HA.out (by simp [samphireref02_half.l1])
          | succ k2 =>
            have H := HA.out
            clear HA
            simp only [samphireref02_half.l1] at H
            by_cases c11 : (x3_2.length : Int) > 0
            · rw [if_pos c11] at H
              have c11b0 : decide (0 < (x3_2.length : Int)) = true := decide_eq_true c11
              have c11b1 : decide (0 < x3_2.length) = true := decide_eq_true (by omega)
              clear c11
              obtain ⟨ji12, hji12⟩ := let_j (wrap64 ((x3_2.length : Int) - 1))
              (first | rw [hji12] at H | simp only [hji12] at H ⊢)
              have hji12w : (IntKind.i64.wrap ((x3_2.length : Int) - 1)) = ji12 := (i64_w _).trans hji12
              obtain ⟨c13, H⟩ := ite_p H
              have c13b0 : decide (0 ≤ (ji12)) = true := decide_eq_true c13
              clear c13
              obtain ⟨c14, H⟩ := ite_p H
              have c14b0 : decide ((ji12) < (x3_2.length : Int)) = true := decide_eq_true c14
              clear c14
              by_cases c15 : (rd x3_2 (ji12)) = 0
              · rw [if_pos c15] at H
                have c15b0 : ((rd x3_2 (ji12)) == 0) = true := beq_iff_eq.mpr c15
                have c15b1 : ((rd x3_2 (ji12)) != 0) = false := bne_eq_false_iff_eq.mpr c15
                clear c15
                obtain ⟨c16, H⟩ := ite_p H
                have c16b0 := eq_true c16
                have c16b1 : decide ((ji12) ≤ (x3_2.length : Int)) = true := decide_eq_true c16
                clear c16
                obtain ⟨y353, Ny353⟩ := let_p (x3_2.take ((ji12) : Int).toNat : List Int)
                (first | rw [← Ny353.out] at H | simp only [← Ny353.out] at H)
                have H' := Aside0.mk H
                clear H
                obtain ⟨Ao17, co17, eo17⟩ := Kd.R_slice HO_3.out
                subst eo17
                have p352 : 0 ≤ ((ji12) : Int) := DA
                have q352 : (ji12) < (x3_2.length : Int) := DA
                obtain ⟨ad352, e352, hx352_0⟩ := Kd.at_int (Kd.R_reads' HO_3.out).2.2 (ji12) p352 q352
                cases e352
                replace p352 := eq_true p352
                replace q352 := eq_true q352
                have q18 : ((ji12) : Int) ≤ ((x3_2.length : Int) : Int) := DA
                obtain ⟨i018, hi018, _, hsz18, _⟩ := info_parts info34
                have hcut18 := cut_to (P := Tryd.prog) 23 34 .i64 Tryd.underlying23 hi018 (some ad352) x3_2.length co17 (ji12) (DA) q18 (Kd.R_reads' HO_3.out).2.1
                have hr18 := Kd.R_take (m := ((ji12) : Int).toNat) HO_3.out (by omega)
                have hy18 : y353.length = ((ji12) : Int).toNat := (by rw [Ny353.out, List.length_take]; omega)
                rw [← Ny353.out] at hr18
                rw [← hy18] at hr18 hcut18
                clear hy18 hi018 hsz18 HO_3
                have HO355 := Aside0.mk hr18
                clear hr18
                replace q18 := eq_true q18
                go_wp2
                go_roundg k2
                case measure => have := HK1.out; have := HK2.out; omega
                case rel => exact ⟨(y353), H', ⟨by have := HK1.out; have := HK2.out; omega⟩, ⟨by (with_reducible repeat (first | apply Kd.R_alloc | apply Kd.R_drewN | apply Kd.R_drew)); exact HO355.out⟩, ⟨BL⟩⟩
              · rw [if_neg c15] at H
                have c15b0 : ((rd x3_2 (ji12)) == 0) = false := beq_eq_false_iff_ne.mpr c15
                have c15b1 : ((rd x3_2 (ji12)) != 0) = true := bne_iff_ne.mpr c15
                obtain rfl := Option.some.inj H
                obtain ⟨Ao19, co19, eo19⟩ := Kd.R_slice HO_3.out
                subst eo19
                have p352 : 0 ≤ ((ji12) : Int) := DA
                have q352 : (ji12) < (x3_2.length : Int) := DA
                obtain ⟨ad352, e352, hx352_0⟩ := Kd.at_int (Kd.R_reads' HO_3.out).2.2 (ji12) p352 q352
                cases e352
                replace p352 := eq_true p352
                replace q352 := eq_true q352
                go_wp2
                go_ret
                exact ⟨_, by first | rfl | (simp [errW_none, errW_some] <;> rfl) | (simp only [← hji12]; first | rfl | (simp [errW_none, errW_some] <;> rfl)) | (simp [*, errW_none, errW_some] <;> rfl), by (with_reducible repeat (first | apply Kd.R_alloc | apply Kd.R_drewN | apply Kd.R_drew)); exact HO_3.out, BL⟩
            · rw [if_neg c11] at H
              have c11b0 : decide (0 < (x3_2.length : Int)) = false := decide_eq_false c11
              have c11b1 : decide (0 < x3_2.length) = false := decide_eq_false (by omega)
              clear c11
              obtain rfl := Option.some.inj H
              obtain ⟨Ao20, co20, eo20⟩ := Kd.R_slice HO_3.out
              subst eo20
              go_wp2
              go_ret
              exact ⟨_, by first | rfl | (simp [errW_none, errW_some] <;> rfl) | (simp [*, errW_none, errW_some] <;> rfl), by (with_reducible repeat (first | apply Kd.R_alloc | apply Kd.R_drewN | apply Kd.R_drew)); exact HO_3.out, BL⟩

/-! ### samphireref02_twice: function 59 -/
set_option maxHeartbeats 8000000 in
set_option maxRecDepth 100000 in
theorem samphireref02_twice.calls (k : Nat) (A0 : Option Addr) (c0 : Nat) (l0 : List Int) (a1 : Int) (r : List Int) (w : World) (hr0 : Kd.C (Kd.int .u32) w A0 l0.length l0) (hc0 : l0.length ≤ c0) (h : samphireref02_twice.f k l0 a1 = some r) :
    Calls Tryd.prog 59 #[.slice A0 l0.length c0, .int .u32 a1] w fun e w' => ∃ v0_ : Value, e = .returned (v0_) ∧ Kd.R (Kd.int .u32) 34 w' w.heap.size (fun _ => True) v0_ r ∧ Below w.heap.size w w' := by
  have HR0 := Aside0.mk hr0
  have HC0 := Aside0.mk hc0
  clear hr0 hc0
  have HB := Aside0.mk (Below.refl w.heap.size w)
  have H : (samphireref02_twice.l0 k l0 ([] : List Int) a1 0) = some r := h
  clear h
  have H' := Aside0.mk H
  clear H
  go_enter Tryd.func59, Tryd.ntmps59
  go_wp2
  go_loopg [5, 6, 7] k (fun kq v5 v6 v7 w' => ∃ (x5_1 : List Int) (x6_1 : Int) (x7_1 : Int), v6 = .int .u32 x6_1 ∧ v7 = .int .i64 x7_1 ∧ Aside0 (samphireref02_twice.l0 kq l0 x5_1 x6_1 x7_1 = some r) ∧ Aside0 (kq ≤ k) ∧ Aside0 (Kd.R (Kd.int .u32) 34 w' w.heap.size (fun _ => True) v5 x5_1) ∧ Aside0 (Below w.heap.size w w'))
  case atStart => exact ⟨(([] : List Int)), (a1), (0), (by first | rfl | (simp; done) | (simp [*]; done) | (simp; exact isEmpty_bne _)), (by first | rfl | (simp; done) | (simp [*]; done) | (simp; exact isEmpty_bne _)), H', ⟨Nat.le_refl _⟩, ⟨by first | exact Kd.R_nil _ _ _ _ _ | exact Kd.N_nil _ _ _ _ _ | exact Kd.V_nil _ _ _ _ _ | exact Kd.Q_nil _ _ _ _ _ | exact Kd.S_nil _ _ _ _ _⟩, ⟨BL⟩⟩
  case round =>
    clear H'
    try clear p2
    obtain ⟨x5_1, x6_1, x7_1, rfl, rfl, HA, HK1, HO_5, HB⟩ := hrel
    cases gk with
    | zero => exact absurd HA.out (by simp [samphireref02_twice.l0])
    | succ k1 =>
      have H := HA.out
      clear HA
      simp only [samphireref02_twice.l0] at H
      by_cases c3 : x7_1 < (l0.length : Int)
      · rw [if_pos c3] at H
        have c3b0 : decide (x7_1 < (l0.length : Int)) = true := decide_eq_true c3
        clear c3
        obtain ⟨c4, H⟩ := ite_p H
        have c4b0 : decide (0 ≤ x7_1) = true := decide_eq_true c4
        clear c4
        obtain ⟨c5, H⟩ := ite_p H
        have LMc5 := Aside0.mk c5
        clear c5
        obtain ⟨y357, Ny357⟩ := let_p (x5_1 ++ [Go.bits .or .u32 (((rd l0 x7_1) * 2) % 4294967296) x6_1] : List Int)
        (first | rw [← Ny357.out] at H | simp only [← Ny357.out] at H)
        have H' := Aside0.mk H
        clear H
        have p356 : 0 ≤ (x7_1 : Int) := DA
        have q356 : x7_1 < (l0.length : Int) := DA
        obtain ⟨ad356, e356, hx356_0⟩ := Kd.at_int HR0.out x7_1 p356 q356
        cases e356
        replace hx356_0 := (HB.out.cell (World.block_lt_of_cell? w _ hx356_0)).trans hx356_0
        replace p356 := eq_true p356
        replace q356 := eq_true q356
        go_wp2_with (first | ((with_reducible refine gate_builtin (b := .append) (xs := #[.tmp 15, .tmp 23]) rfl ?_); at_builtin; refine Kd.R_append (Kd.int .u32) (w0 := w) w.heap.size rfl (.tmp 15) (.tmp 23) 23 34 (.int .u32 0) 4 rfl Tryd.underlying23 info34 rfl (by decide) (by omega) u5 x5_1 (Go.bits .or .u32 (((rd l0 x7_1) * 2) % 4294967296) x6_1) [.int .u32 (Go.bits .or .u32 (((rd l0 x7_1) * 2) % 4294967296) x6_1)] (fun _ => True) (fun _ => False) rfl rfl ?aP (fun _ hk => hk.elim) ?aF ?aO ?aB ?aS ?aL ?_; (case aP => exact rfl); (case aB => exact BL); (case aF => exact (fun _ _ => trivial)); (case aO => exact (RL HO_5)); (case aS => exact (below_size BL)); (case aL => have := LMc5.out; omega); intro v358 w6 ho hb hg hat; rw [← Ny357.out] at ho; have n0_ := Aside0.mk (hb); have n1_ := Aside0.mk (ho); clear HB; clear HO_5; have HB := n0_; have HO359 := n1_; clear n0_ n1_; clear ho hb hg hat; have p360 : 0 ≤ (x7_1 : Int) := DA; have q360 : x7_1 < (l0.length : Int) := DA; obtain ⟨ad360, e360, hx360_0⟩ := Kd.at_int HR0.out x7_1 p360 q360; obtain rfl : ad356 = ad360 := (by injection e360); replace hx360_0 := (HB.out.cell (World.block_lt_of_cell? w _ hx360_0)).trans hx360_0; replace p360 := eq_true p360; replace q360 := eq_true q360))
        go_roundg k1
        case measure => have := HK1.out; omega
        case rel => exact ⟨(y357), ((rd l0 x7_1) / 2147483648), (wrap64 (x7_1 + 1)), (by first | rfl | (simp; done) | (simp [*]; done) | (simp; exact isEmpty_bne _)), (by first | rfl | (simp; done) | (simp [*]; done) | (simp; exact isEmpty_bne _)), H', ⟨by have := HK1.out; omega⟩, ⟨by (with_reducible repeat (first | apply Kd.R_alloc | apply Kd.R_drewN | apply Kd.R_drew)); exact HO359.out⟩, ⟨BL⟩⟩
      · rw [if_neg c3] at H
        have c3b0 : decide (x7_1 < (l0.length : Int)) = false := decide_eq_false c3
        clear c3
        by_cases c7 : x6_1 > 0
        · rw [if_pos c7] at H
          have c7b0 : decide (0 < x6_1) = true := decide_eq_true c7
          clear c7
          obtain ⟨c8, H⟩ := ite_p H
          have LMc8 := Aside0.mk c8
          clear c8
          obtain ⟨y361, Ny361⟩ := let_p (x5_1 ++ [x6_1] : List Int)
          (first | rw [← Ny361.out] at H | simp only [← Ny361.out] at H)
          obtain rfl := Option.some.inj H
          go_wp2_with (first | ((with_reducible refine gate_builtin (b := .append) (xs := #[.tmp 32, .tmp 34]) rfl ?_); at_builtin; refine Kd.R_append (Kd.int .u32) (w0 := w) w.heap.size rfl (.tmp 32) (.tmp 34) 23 34 (.int .u32 0) 4 rfl Tryd.underlying23 info34 rfl (by decide) (by omega) u5 x5_1 x6_1 [.int .u32 x6_1] (fun _ => True) (fun _ => False) rfl rfl ?aP (fun _ hk => hk.elim) ?aF ?aO ?aB ?aS ?aL ?_; (case aP => exact rfl); (case aB => exact BL); (case aF => exact (fun _ _ => trivial)); (case aO => exact (RL HO_5)); (case aS => exact (below_size BL)); (case aL => have := LMc8.out; omega); intro v362 w9 ho hb hg hat; rw [← Ny361.out] at ho; have n0_ := Aside0.mk (hb); have n1_ := Aside0.mk (ho); clear HB; clear HO_5; have HB := n0_; have HO363 := n1_; clear n0_ n1_; clear ho hb hg hat))
          go_ret
          exact ⟨_, by first | rfl | (simp [errW_none, errW_some] <;> rfl) | (simp [*, errW_none, errW_some] <;> rfl), by (with_reducible repeat (first | apply Kd.R_alloc | apply Kd.R_drewN | apply Kd.R_drew)); exact HO363.out, BL⟩
        · rw [if_neg c7] at H
          have c7b0 : decide (0 < x6_1) = false := decide_eq_false c7
          clear c7
          obtain rfl := Option.some.inj H
          go_wp2
          go_ret
          exact ⟨_, by first | rfl | (simp [errW_none, errW_some] <;> rfl) | (simp [*, errW_none, errW_some] <;> rfl), by (with_reducible repeat (first | apply Kd.R_alloc | apply Kd.R_drewN | apply Kd.R_drew)); exact HO_5.out, BL⟩

/-! ### samphireref02_Gcd: function 38 -/
set_option maxHeartbeats 8000000 in
set_option maxRecDepth 100000 in
theorem samphireref02_Gcd.calls (k : Nat) (P0_ : Nat → Prop) (A0 : Option Addr) (c0 : Nat) (l0 : List Int) (P1_ : Nat → Prop) (A1 : Option Addr) (c1 : Nat) (l1 : List Int) (r : List Int) (w : World) (hs0 : Kd.V (Kd.int .u32) 34 w w.heap.size (fun k_ => P0_ k_) (.slice A0 l0.length c0) l0) (hs1 : Kd.V (Kd.int .u32) 34 w w.heap.size (fun k_ => P1_ k_) (.slice A1 l1.length c1) l1) (h : samphireref02_Gcd.f k l0 l1 = some r) :
    Calls Tryd.prog 38 #[.slice A0 l0.length c0, .slice A1 l1.length c1] w fun e w' => ∃ v0_ : Value, e = .returned (v0_) ∧ Kd.V (Kd.int .u32) 34 w' w.heap.size (fun k_ => ((P0_ k_ ∨ P1_ k_) ∨ w.heap.size ≤ k_)) v0_ r ∧ Below w.heap.size w w' := by
  have HO0 := Aside0.mk (show Kd.V (Kd.int .u32) 34 w w.heap.size (fun k_ => ((P0_ k_ ∨ P1_ k_) ∨ w.heap.size ≤ k_)) (.slice A0 l0.length c0) l0 from Kd.V_mono hs0 (fun k_ hk => .inl (.inl hk)))
  have HO1 := Aside0.mk (show Kd.V (Kd.int .u32) 34 w w.heap.size (fun k_ => ((P0_ k_ ∨ P1_ k_) ∨ w.heap.size ≤ k_)) (.slice A1 l1.length c1) l1 from Kd.V_mono hs1 (fun k_ hk => .inl (.inr hk)))
  have HB := Aside0.mk (Below.refl w.heap.size w)
  have H : (if (l0.length : Int) = 0 then (some l1) else (if (l1.length : Int) = 0 then (some l0) else (samphireref02_Gcd.l0 k l0 l1 0))) = some r := h
  clear h
  by_cases c3 : (l0.length : Int) = 0
  · rw [if_pos c3] at H
    have c3b0 : ((l0.length : Int) == 0) = true := beq_iff_eq.mpr c3
    have c3b1 : ((l0.length : Int) != 0) = false := bne_eq_false_iff_eq.mpr c3
    clear c3
    obtain rfl := Option.some.inj H
    go_enter Tryd.func38, Tryd.ntmps38
    go_wp2
    go_ret
    exact ⟨_, by first | rfl | (simp [errW_none, errW_some] <;> rfl) | (simp [*, errW_none, errW_some] <;> rfl), by (with_reducible repeat (first | apply Kd.V_alloc | apply Kd.V_drewN | apply Kd.V_drew)); exact HO1.out, BL⟩
  · rw [if_neg c3] at H
    have c3b0 : ((l0.length : Int) == 0) = false := beq_eq_false_iff_ne.mpr c3
    have c3b1 : ((l0.length : Int) != 0) = true := bne_iff_ne.mpr c3
    have c3b2 : ¬ (l0 = []) := fun h_ => c3 (by rw [h_]; rfl)
    by_cases c4 : (l1.length : Int) = 0
    · rw [if_pos c4] at H
      have c4b0 : ((l1.length : Int) == 0) = true := beq_iff_eq.mpr c4
      have c4b1 : ((l1.length : Int) != 0) = false := bne_eq_false_iff_eq.mpr c4
      clear c4
      obtain rfl := Option.some.inj H
      go_enter Tryd.func38, Tryd.ntmps38
      go_wp2
      go_ret
      exact ⟨_, by first | rfl | (simp [errW_none, errW_some] <;> rfl) | (simp [*, errW_none, errW_some] <;> rfl), by (with_reducible repeat (first | apply Kd.V_alloc | apply Kd.V_drewN | apply Kd.V_drew)); exact HO0.out, BL⟩
    · rw [if_neg c4] at H
      have c4b0 : ((l1.length : Int) == 0) = false := beq_eq_false_iff_ne.mpr c4
      have c4b1 : ((l1.length : Int) != 0) = true := bne_iff_ne.mpr c4
      have c4b2 : ¬ (l1 = []) := fun h_ => c4 (by rw [h_]; rfl)
      have H' := Aside0.mk H
      clear H
      go_enter Tryd.func38, Tryd.ntmps38
      go_wp2
      go_loopg [0, 1, 5] k (fun kq v0 v1 v5 w' => ∃ (x0_1 : List Int) (x1_1 : List Int) (x5_1 : Int), v5 = .int .i64 x5_1 ∧ Aside0 (samphireref02_Gcd.l0 kq x0_1 x1_1 x5_1 = some r) ∧ Aside0 (kq ≤ k) ∧ Aside0 (Kd.V (Kd.int .u32) 34 w' w.heap.size (fun k_ => ((P0_ k_ ∨ P1_ k_) ∨ w.heap.size ≤ k_)) v0 x0_1) ∧ Aside0 (Kd.V (Kd.int .u32) 34 w' w.heap.size (fun k_ => ((P0_ k_ ∨ P1_ k_) ∨ w.heap.size ≤ k_)) v1 x1_1) ∧ Aside0 (Below w.heap.size w w'))
      case atStart => exact ⟨(l0), (l1), (0), (by first | rfl | (simp; done) | (simp [*]; done) | (simp; exact isEmpty_bne _)), H', ⟨Nat.le_refl _⟩, ⟨by (with_reducible repeat (first | apply Kd.V_alloc | apply Kd.V_drewN | apply Kd.V_drew)); exact HO0.out⟩, ⟨by (with_reducible repeat (first | apply Kd.V_alloc | apply Kd.V_drewN | apply Kd.V_drew)); exact HO1.out⟩, ⟨BL⟩⟩
      case round =>
        clear H'
        try clear c1
        try clear p2
        try clear c3
        try clear c3b0
        try clear c3b1
        try clear c3b2
        try clear c4
        try clear c4b0
        try clear c4b1
        try clear c4b2
        obtain ⟨x0_1, x1_1, x5_1, rfl, HA, HK1, HO_0, HO_1, HB⟩ := hrel
        cases gk with
        | zero => exact absurd HA.out (by simp [samphireref02_Gcd.l0])
        | succ k1 =>
          have H := HA.out
          clear HA
          simp only [samphireref02_Gcd.l0] at H
          have HC5 := Aside0.mk H
          clear H
          go_upto_region 6 with (fail)
          go_cut [19] (fun v19 wc => ∃ (kq : Nat) (x19_4 : Bool), v19 = .bool x19_4 ∧ Aside0 (samphireref02_Gcd.j1 kq x0_1 x1_1 x5_1 x19_4 = some r) ∧ Aside0 (kq ≤ k1) ∧ Aside0 (Kd.V (Kd.int .u32) 34 wc w.heap.size (fun k_ => ((P0_ k_ ∨ P1_ k_) ∨ w.heap.size ≤ k_)) u0 x0_1) ∧ Aside0 (Kd.V (Kd.int .u32) 34 wc w.heap.size (fun k_ => ((P0_ k_ ∨ P1_ k_) ∨ w.heap.size ≤ k_)) u1 x1_1) ∧ Aside0 (Below w.heap.size w wc))
          case first =>
            have H := HC5.out
            clear HC5
            obtain ⟨t364, A6, H⟩ := bind_p H
            by_cases c7 : t364 = true
            · subst c7
              have H1 : ((samphireref02_even.f x1_1).bind fun t365 => (samphireref02_Gcd.j1 k1 x0_1 x1_1 x5_1 t365)) = some r := by rw [if_pos rfl] at H; exact H
              clear H
              have H := H1
              clear H1
              obtain ⟨t365, A8, H⟩ := bind_p H
              have H' := Aside0.mk H
              clear H
              obtain ⟨Ao9, co9, eo9⟩ := Kd.V_slice HO_0.out
              subst eo9
              go_wp2_with (first | ((with_reducible refine gate_callee (f := 57) rfl ?_); refine goesL_ (some 15) rfl rfl Tryd.func57 (by kernel_rfl) rfl #[.slice Ao9 x0_1.length co9] rfl EQ ?_; (with_reducible refine (samphireref02_even.calls _ _ x0_1 true _ ?side1 ?side2 A6.out).mono ?_); (case side1 => repeat (first | exact (Kd.V_reads' HO_0.out).2.2 | (with_reducible refine Kd.C_alloc ?_ _) | (with_reducible refine Kd.C_drewN ?_ _) | (with_reducible refine Kd.C_drew ?_))); (case side2 => exact (Kd.V_reads' HO_0.out).2.1); rintro e w' ⟨rfl, ⟨nd, rfl⟩⟩; refine ⟨_, rfl, ?_⟩; obtain ⟨Ao10, co10, eo10⟩ := Kd.V_slice HO_1.out; subst eo10) | (go_at_call 57; (with_reducible refine (samphireref02_even.calls _ _ x1_1 t365 _ ?side1 ?side2 A8.out).mono ?_); (case side1 => repeat (first | exact (Kd.V_reads' HO_1.out).2.2 | (with_reducible refine Kd.C_alloc ?_ _) | (with_reducible refine Kd.C_drewN ?_ _) | (with_reducible refine Kd.C_drew ?_))); (case side2 => exact (Kd.V_reads' HO_1.out).2.1); rintro e w' ⟨rfl, ⟨nd, rfl⟩⟩))
              go_meet
              case rel => exact ⟨_, (t365), (by first | rfl | (simp; done) | (simp [*]; done) | (simp; exact isEmpty_bne _)), H', ⟨by have := HK1.out; first | omega | exact Nat.le_refl _⟩, ⟨by (with_reducible repeat (first | apply Kd.V_alloc | apply Kd.V_drewN | apply Kd.V_drew)); exact HO_0.out⟩, ⟨by (with_reducible repeat (first | apply Kd.V_alloc | apply Kd.V_drewN | apply Kd.V_drew)); exact HO_1.out⟩, ⟨BL⟩⟩
            · replace c7 := Bool.eq_false_iff.mpr c7
              subst c7
              have H1 : (samphireref02_Gcd.j1 k1 x0_1 x1_1 x5_1 false) = some r := by rw [if_neg (show ¬ (false = true) by decide)] at H; exact H
              clear H
              have H := H1
              clear H1
              have H' := Aside0.mk H
              clear H
              obtain ⟨Ao11, co11, eo11⟩ := Kd.V_slice HO_0.out
              subst eo11
              go_wp2_with (first | ((with_reducible refine gate_callee (f := 57) rfl ?_); refine goesL_ (some 15) rfl rfl Tryd.func57 (by kernel_rfl) rfl #[.slice Ao11 x0_1.length co11] rfl EQ ?_; (with_reducible refine (samphireref02_even.calls _ _ x0_1 false _ ?side1 ?side2 A6.out).mono ?_); (case side1 => repeat (first | exact (Kd.V_reads' HO_0.out).2.2 | (with_reducible refine Kd.C_alloc ?_ _) | (with_reducible refine Kd.C_drewN ?_ _) | (with_reducible refine Kd.C_drew ?_))); (case side2 => exact (Kd.V_reads' HO_0.out).2.1); rintro e w' ⟨rfl, ⟨nd, rfl⟩⟩; refine ⟨_, rfl, ?_⟩))
              go_meet
              case rel => exact ⟨_, (false), (by first | rfl | (simp; done) | (simp [*]; done) | (simp; exact isEmpty_bne _)), H', ⟨by have := HK1.out; first | omega | exact Nat.le_refl _⟩, ⟨by (with_reducible repeat (first | apply Kd.V_alloc | apply Kd.V_drewN | apply Kd.V_drew)); exact HO_0.out⟩, ⟨by (with_reducible repeat (first | apply Kd.V_alloc | apply Kd.V_drewN | apply Kd.V_drew)); exact HO_1.out⟩, ⟨BL⟩⟩
          case rest =>
            clear HC5
            try clear c1
            try clear p2
            try clear c3
            try clear c3b0
            try clear c3b1
            try clear c3b2
            try clear c4
            try clear c4b0
            try clear c4b1
            try clear c4b2
            try clear c5
            try clear c7
            try clear p2
            obtain ⟨kq, x19_4, rfl, HA, HJ4, HO_0, HO_1, HB⟩ := hcut
            cases kq with
            | zero => exact absurd HA.out (by simp [samphireref02_Gcd.j1])
            | succ kj4 =>
              have H := HA.out
              clear HA
              simp only [samphireref02_Gcd.j1] at H
              by_cases c12 : x19_4 = true
              · subst c12
                have H1 : ((samphireref02_half.f kj4 x0_1).bind fun t366 => ((samphireref02_half.f kj4 x1_1).bind fun t369 => (samphireref02_Gcd.l0 kj4 t366 t369 (wrap64 (x5_1 + 1))))) = some r := by rw [if_pos rfl] at H; exact H
                clear H
                have H := H1
                clear H1
                obtain ⟨t366, A13, H⟩ := bind_p H
                obtain ⟨t369, A14, H⟩ := bind_p H
                have H' := Aside0.mk H
                clear H
                obtain ⟨Ao15, co15, eo15⟩ := Kd.V_slice HO_0.out
                subst eo15
                go_wp2_with (first | ((with_reducible refine gate_callee (f := 58) rfl ?_); refine goesL_ (some 21) rfl rfl Tryd.func58 (by kernel_rfl) rfl #[.slice Ao15 x0_1.length co15] rfl EQ ?_; (with_reducible refine (samphireref02_half.calls kj4 _ _ x0_1 t366 _ ?side1 ?side2 A13.out).mono ?_); (case side1 => repeat (first | exact (Kd.V_reads' HO_0.out).2.2 | (with_reducible refine Kd.C_alloc ?_ _) | (with_reducible refine Kd.C_drewN ?_ _) | (with_reducible refine Kd.C_drew ?_))); (case side2 => exact (Kd.V_reads' HO_0.out).2.1); rintro e w16 ⟨v367, rfl, ho0, hb⟩; refine ⟨_, rfl, ?_⟩; have n0_ := Aside0.mk (Kd.V_elder' (by (with_reducible repeat (first | apply Kd.V_alloc | apply Kd.V_drewN | apply Kd.V_drew)); exact HO_0.out) (Kd.R_base ho0) hb); have n1_ := Aside0.mk (Kd.V_elder' (by (with_reducible repeat (first | apply Kd.V_alloc | apply Kd.V_drewN | apply Kd.V_drew)); exact HO_1.out) (Kd.R_base ho0) hb); have n2_ := Aside0.mk (Kd.R_lower (Kd.R_newM (M := fun k_ => (w.heap.size ≤ k_)) ho0 (below_size BL) (fun k_ h_ => h_)) (below_size BL)); have n3_ := Aside0.mk (below_step BL hb); clear HO_0; clear HO_1; clear HB; have HO_0 := n0_; have HO_1 := n1_; have HO368 := n2_; have HB := n3_; clear n0_ n1_ n2_ n3_; (try clear hb); (try clear hb2); (try clear hk); (try clear hi); (try clear ho0); obtain ⟨Ao17, co17, eo17⟩ := Kd.V_slice HO_1.out; subst eo17) | ((with_reducible refine gate_callee (f := 58) rfl ?_); refine goesL_ (some 23) rfl rfl Tryd.func58 (by kernel_rfl) rfl #[.slice Ao17 x1_1.length co17] rfl EQ ?_; (with_reducible refine (samphireref02_half.calls kj4 _ _ x1_1 t369 _ ?side1 ?side2 A14.out).mono ?_); (case side1 => repeat (first | exact (Kd.V_reads' HO_1.out).2.2 | (with_reducible refine Kd.C_alloc ?_ _) | (with_reducible refine Kd.C_drewN ?_ _) | (with_reducible refine Kd.C_drew ?_))); (case side2 => exact (Kd.V_reads' HO_1.out).2.1); rintro e w18 ⟨v370, rfl, ho0, hb⟩; refine ⟨_, rfl, ?_⟩; have n0_ := Aside0.mk (Kd.V_elder' (by (with_reducible repeat (first | apply Kd.V_alloc | apply Kd.V_drewN | apply Kd.V_drew)); exact HO_0.out) (Kd.R_base ho0) hb); have n1_ := Aside0.mk (Kd.V_elder' (by (with_reducible repeat (first | apply Kd.V_alloc | apply Kd.V_drewN | apply Kd.V_drew)); exact HO_1.out) (Kd.R_base ho0) hb); have n2_ := Aside0.mk (Kd.R_elder' (RL HO368) (Kd.R_base ho0) hb); have n3_ := Aside0.mk (Kd.R_lower (Kd.R_new' (Kd.R_newM (M := fun k_ => (w.heap.size ≤ k_)) ho0 (below_size BL) (fun k_ h_ => h_)) (Kd.R_lt (RL HO368))) (below_size BL)); have n4_ := Aside0.mk (below_step BL hb); clear HO_0; clear HO_1; clear HO368; clear HB; have HO_0 := n0_; have HO_1 := n1_; have HO368 := n2_; have HO371 := n3_; have HB := n4_; clear n0_ n1_ n2_ n3_ n4_; (try clear hb); (try clear hb2); (try clear hk); (try clear hi); (try clear ho0)))
                go_roundg kj4
                case measure => have := HK1.out; have := HJ4.out; omega
                case rel => exact ⟨(t366), (t369), (wrap64 (x5_1 + 1)), (by first | rfl | (simp; done) | (simp [*]; done) | (simp; exact isEmpty_bne _)), H', ⟨by have := HK1.out; have := HJ4.out; omega⟩, ⟨Kd.V_mono (Kd.R_V (by (with_reducible repeat (first | apply Kd.R_alloc | apply Kd.R_drewN | apply Kd.R_drew)); exact Kd.R_mono HO368.out (fun _ hk => hk.1.1))) (fun k_ hk => by first | exact ⟨(.inr (hk.1)), hk.2⟩ | exact (.inr (hk)))⟩, ⟨Kd.V_mono (Kd.R_V (by (with_reducible repeat (first | apply Kd.R_alloc | apply Kd.R_drewN | apply Kd.R_drew)); exact Kd.R_mono HO371.out (fun _ hk => hk.1.1))) (fun k_ hk => by first | exact ⟨(.inr (hk.1)), hk.2⟩ | exact (.inr (hk)))⟩, ⟨BL⟩⟩
              · replace c12 := Bool.eq_false_iff.mpr c12
                subst c12
                have H1 : (samphireref02_Gcd.l1 kj4 x0_1 x1_1 x5_1) = some r := by rw [if_neg (show ¬ (false = true) by decide)] at H; exact H
                clear H
                have H := H1
                clear H1
                have H' := Aside0.mk H
                clear H
                go_wp2
                go_loopg [0, 1] kj4 (fun kq v0 v1 w' => ∃ (x0_3 : List Int) (x1_3 : List Int), Aside0 (samphireref02_Gcd.l1 kq x0_3 x1_3 x5_1 = some r) ∧ Aside0 (kq ≤ kj4) ∧ Aside0 (Kd.V (Kd.int .u32) 34 w' w.heap.size (fun k_ => ((P0_ k_ ∨ P1_ k_) ∨ w.heap.size ≤ k_)) v0 x0_3) ∧ Aside0 (Kd.V (Kd.int .u32) 34 w' w.heap.size (fun k_ => ((P0_ k_ ∨ P1_ k_) ∨ w.heap.size ≤ k_)) v1 x1_3) ∧ Aside0 (Below w.heap.size w w'))
                case atStart => exact ⟨(x0_1), (x1_1), H', ⟨Nat.le_refl _⟩, ⟨by (with_reducible repeat (first | apply Kd.V_alloc | apply Kd.V_drewN | apply Kd.V_drew)); exact HO_0.out⟩, ⟨by (with_reducible repeat (first | apply Kd.V_alloc | apply Kd.V_drewN | apply Kd.V_drew)); exact HO_1.out⟩, ⟨BL⟩⟩
                case round =>
                  clear H'
                  try clear c1
                  try clear p2
                  try clear c3
                  try clear c3b0
                  try clear c3b1
                  try clear c3b2
                  try clear c4
                  try clear c4b0
                  try clear c4b1
                  try clear c4b2
                  try clear c5
                  try clear p6
                  try clear c7
                  try clear c12
                  try clear p2
                  obtain ⟨x0_3, x1_3, HA, HK3, HO_0, HO_1, HB⟩ := hrel
                  cases gk with
                  | zero => exact absurd HA.out (by simp [samphireref02_Gcd.l1])
                  | succ k3 =>
                    have H := HA.out
                    clear HA
                    simp only [samphireref02_Gcd.l1] at H
                    by_cases c19 : (x0_3.length : Int) > 0
                    · rw [if_pos c19] at H
                      have c19b0 : decide (0 < (x0_3.length : Int)) = true := decide_eq_true c19
                      have c19b1 : decide (0 < x0_3.length) = true := decide_eq_true (by omega)
                      clear c19
                      have HC20 := Aside0.mk H
                      clear H
                      obtain ⟨Ao21, co21, eo21⟩ := Kd.V_slice HO_0.out
                      subst eo21
                      go_upto_block 4 with (fail)
                      go_cut [0] (fun v0 wc => ∃ (kq : Nat) (x0_19 : List Int), Aside0 (samphireref02_Gcd.j4 kq x0_19 x1_3 x5_1 = some r) ∧ Aside0 (kq ≤ k3) ∧ Aside0 (Kd.V (Kd.int .u32) 34 wc w.heap.size (fun k_ => ((P0_ k_ ∨ P1_ k_) ∨ w.heap.size ≤ k_)) v0 x0_19) ∧ Aside0 (Kd.V (Kd.int .u32) 34 wc w.heap.size (fun k_ => ((P0_ k_ ∨ P1_ k_) ∨ w.heap.size ≤ k_)) u1 x1_3) ∧ Aside0 (Below w.heap.size w wc))
                      case first =>
                        have H := HC20.out
                        clear HC20
                        have H' := Aside0.mk H
                        clear H
                        go_wp2
                        go_loopg [0] k3 (fun kq v0 w' => ∃ (x0_4 : List Int), Aside0 (samphireref02_Gcd.l2 kq x0_4 x1_3 x5_1 = some r) ∧ Aside0 (kq ≤ k3) ∧ Aside0 (Kd.V (Kd.int .u32) 34 w' w.heap.size (fun k_ => ((P0_ k_ ∨ P1_ k_) ∨ w.heap.size ≤ k_)) v0 x0_4) ∧ Aside0 (Kd.V (Kd.int .u32) 34 w' w.heap.size (fun k_ => ((P0_ k_ ∨ P1_ k_) ∨ w.heap.size ≤ k_)) u1 x1_3) ∧ Aside0 (Below w.heap.size w w'))
                        case atStart => exact ⟨(x0_3), H', ⟨Nat.le_refl _⟩, ⟨by (with_reducible repeat (first | apply Kd.V_alloc | apply Kd.V_drewN | apply Kd.V_drew)); exact HO_0.out⟩, ⟨by (with_reducible repeat (first | apply Kd.V_alloc | apply Kd.V_drewN | apply Kd.V_drew)); exact HO_1.out⟩, ⟨BL⟩⟩
                        case round =>
                          clear H'
                          try clear c1
                          try clear p2
                          try clear c3
                          try clear c3b0
                          try clear c3b1
                          try clear c3b2
                          try clear c4
                          try clear c4b0
                          try clear c4b1
                          try clear c4b2
                          try clear c5
                          try clear p6
                          try clear c7
                          try clear c12
                          try clear c19
                          try clear c19b0
                          try clear c19b1
                          try clear p2
                          try clear p6
                          obtain ⟨x0_4, HA, HK4, HO_0, HO_1, HB⟩ := hrel
                          cases gk with
                          | zero => exact absurd HA.out (by simp [samphireref02_Gcd.l2])
                          | succ k4 =>
                            have H := HA.out
                            clear HA
                            simp only [samphireref02_Gcd.l2] at H
                            obtain ⟨t372, A22, H⟩ := bind_p H
                            by_cases c23 : t372 = true
                            · subst c23
                              have H1 : (if (x0_4.length : Int) > 0 then ((samphireref02_half.f k4 x0_4).bind fun t373 => (samphireref02_Gcd.l2 k4 t373 x1_3 x5_1)) else (samphireref02_Gcd.j4 k4 x0_4 x1_3 x5_1)) = some r := by rw [if_pos rfl] at H; exact H
                              clear H
                              have H := H1
                              clear H1
                              by_cases c24 : (x0_4.length : Int) > 0
                              · rw [if_pos c24] at H
                                have c24b0 : decide (0 < (x0_4.length : Int)) = true := decide_eq_true c24
                                have c24b1 : decide (0 < x0_4.length) = true := decide_eq_true (by omega)
                                clear c24
                                (first | rw [c24b0] | (simp only [i64_w, i32_w]; rw [c24b0]) | skip)
                                obtain ⟨t373, A25, H⟩ := bind_p H
                                have H' := Aside0.mk H
                                clear H
                                obtain ⟨Ao26, co26, eo26⟩ := Kd.V_slice HO_0.out
                                subst eo26
                                go_wp2_with (first | ((with_reducible refine gate_callee (f := 57) rfl ?_); refine goesL_ (some 30) rfl rfl Tryd.func57 (by kernel_rfl) rfl #[.slice Ao26 x0_4.length co26] rfl EQ ?_; (with_reducible refine (samphireref02_even.calls _ _ x0_4 true _ ?side1 ?side2 A22.out).mono ?_); (case side1 => repeat (first | exact (Kd.V_reads' HO_0.out).2.2 | (with_reducible refine Kd.C_alloc ?_ _) | (with_reducible refine Kd.C_drewN ?_ _) | (with_reducible refine Kd.C_drew ?_))); (case side2 => exact (Kd.V_reads' HO_0.out).2.1); rintro e w' ⟨rfl, ⟨nd, rfl⟩⟩; refine ⟨_, rfl, ?_⟩) | ((with_reducible refine gate_callee (f := 58) rfl ?_); refine goesL_ (some 37) rfl rfl Tryd.func58 (by kernel_rfl) rfl #[.slice Ao26 x0_4.length co26] rfl EQ ?_; (with_reducible refine (samphireref02_half.calls k4 _ _ x0_4 t373 _ ?side1 ?side2 A25.out).mono ?_); (case side1 => repeat (first | exact (Kd.V_reads' HO_0.out).2.2 | (with_reducible refine Kd.C_alloc ?_ _) | (with_reducible refine Kd.C_drewN ?_ _) | (with_reducible refine Kd.C_drew ?_))); (case side2 => exact (Kd.V_reads' HO_0.out).2.1); rintro e w27 ⟨v374, rfl, ho0, hb⟩; refine ⟨_, rfl, ?_⟩; have n0_ := Aside0.mk (Kd.V_elder' (by (with_reducible repeat (first | apply Kd.V_alloc | apply Kd.V_drewN | apply Kd.V_drew)); exact HO_0.out) (Kd.R_base ho0) hb); have n1_ := Aside0.mk (Kd.V_elder' (by (with_reducible repeat (first | apply Kd.V_alloc | apply Kd.V_drewN | apply Kd.V_drew)); exact HO_1.out) (Kd.R_base ho0) hb); have n2_ := Aside0.mk (Kd.R_lower (Kd.R_newM (M := fun k_ => (w.heap.size ≤ k_)) ho0 (below_size BL) (fun k_ h_ => h_)) (below_size BL)); have n3_ := Aside0.mk (below_step BL hb); clear HO_0; clear HO_1; clear HB; have HO_0 := n0_; have HO_1 := n1_; have HO375 := n2_; have HB := n3_; clear n0_ n1_ n2_ n3_; (try clear hb); (try clear hb2); (try clear hk); (try clear hi); (try clear ho0)))
                                go_roundg k4
                                case measure => have := HK1.out; have := HJ4.out; have := HK3.out; have := HK4.out; omega
                                case rel => exact ⟨(t373), H', ⟨by have := HK1.out; have := HJ4.out; have := HK3.out; have := HK4.out; omega⟩, ⟨Kd.V_mono (Kd.R_V (by (with_reducible repeat (first | apply Kd.R_alloc | apply Kd.R_drewN | apply Kd.R_drew)); exact Kd.R_mono HO375.out (fun _ hk => hk.1))) (fun k_ hk => by first | exact ⟨(.inr (hk.1)), hk.2⟩ | exact (.inr (hk)))⟩, ⟨by (with_reducible repeat (first | apply Kd.V_alloc | apply Kd.V_drewN | apply Kd.V_drew)); exact Kd.V_mono HO_1.out (fun _ hk => hk.1)⟩, ⟨BL⟩⟩
                              · rw [if_neg c24] at H
                                have c24b0 : decide (0 < (x0_4.length : Int)) = false := decide_eq_false c24
                                have c24b1 : decide (0 < x0_4.length) = false := decide_eq_false (by omega)
                                clear c24
                                (first | rw [c24b0] | (simp only [i64_w, i32_w]; rw [c24b0]) | skip)
                                have H' := Aside0.mk H
                                clear H
                                obtain ⟨Ao28, co28, eo28⟩ := Kd.V_slice HO_0.out
                                subst eo28
                                go_wp2_with (first | ((with_reducible refine gate_callee (f := 57) rfl ?_); refine goesL_ (some 30) rfl rfl Tryd.func57 (by kernel_rfl) rfl #[.slice Ao28 x0_4.length co28] rfl EQ ?_; (with_reducible refine (samphireref02_even.calls _ _ x0_4 true _ ?side1 ?side2 A22.out).mono ?_); (case side1 => repeat (first | exact (Kd.V_reads' HO_0.out).2.2 | (with_reducible refine Kd.C_alloc ?_ _) | (with_reducible refine Kd.C_drewN ?_ _) | (with_reducible refine Kd.C_drew ?_))); (case side2 => exact (Kd.V_reads' HO_0.out).2.1); rintro e w' ⟨rfl, ⟨nd, rfl⟩⟩; refine ⟨_, rfl, ?_⟩))
                                go_meet
                                case rel => exact ⟨_, (x0_4), H', ⟨by have := HK1.out; have := HJ4.out; have := HK3.out; have := HK4.out; first | omega | exact Nat.le_refl _⟩, ⟨by (with_reducible repeat (first | apply Kd.V_alloc | apply Kd.V_drewN | apply Kd.V_drew)); exact HO_0.out⟩, ⟨by (with_reducible repeat (first | apply Kd.V_alloc | apply Kd.V_drewN | apply Kd.V_drew)); exact HO_1.out⟩, ⟨BL⟩⟩
                            · replace c23 := Bool.eq_false_iff.mpr c23
                              subst c23
                              have H1 : (samphireref02_Gcd.j4 k4 x0_4 x1_3 x5_1) = some r := by rw [if_neg (show ¬ (false = true) by decide)] at H; exact H
                              clear H
                              have H := H1
                              clear H1
                              have H' := Aside0.mk H
                              clear H
                              obtain ⟨Ao29, co29, eo29⟩ := Kd.V_slice HO_0.out
                              subst eo29
                              go_wp2_with (first | ((with_reducible refine gate_callee (f := 57) rfl ?_); refine goesL_ (some 30) rfl rfl Tryd.func57 (by kernel_rfl) rfl #[.slice Ao29 x0_4.length co29] rfl EQ ?_; (with_reducible refine (samphireref02_even.calls _ _ x0_4 false _ ?side1 ?side2 A22.out).mono ?_); (case side1 => repeat (first | exact (Kd.V_reads' HO_0.out).2.2 | (with_reducible refine Kd.C_alloc ?_ _) | (with_reducible refine Kd.C_drewN ?_ _) | (with_reducible refine Kd.C_drew ?_))); (case side2 => exact (Kd.V_reads' HO_0.out).2.1); rintro e w' ⟨rfl, ⟨nd, rfl⟩⟩; refine ⟨_, rfl, ?_⟩))
                              go_meet
                              case rel => exact ⟨_, (x0_4), H', ⟨by have := HK1.out; have := HJ4.out; have := HK3.out; have := HK4.out; first | omega | exact Nat.le_refl _⟩, ⟨by (with_reducible repeat (first | apply Kd.V_alloc | apply Kd.V_drewN | apply Kd.V_drew)); exact HO_0.out⟩, ⟨by (with_reducible repeat (first | apply Kd.V_alloc | apply Kd.V_drewN | apply Kd.V_drew)); exact HO_1.out⟩, ⟨BL⟩⟩
                      case rest =>
                        clear HC20
                        try clear c1
                        try clear c2
                        try clear p2
                        try clear c3
                        try clear c3b0
                        try clear c3b1
                        try clear c3b2
                        try clear c4
                        try clear c4b0
                        try clear c4b1
                        try clear c4b2
                        try clear c5
                        try clear p6
                        try clear c7
                        try clear c12
                        try clear c19
                        try clear c19b0
                        try clear c19b1
                        try clear c23
                        try clear c24
                        try clear c24b0
                        try clear c24b1
                        try clear p2
                        try clear p6
                        obtain ⟨kq, x0_19, HA, HJ19, HO_0, HO_1, HB⟩ := hcut
                        cases kq with
                        | zero => exact absurd HA.out (by simp [samphireref02_Gcd.j4])
                        | succ kj19 =>
                          have H := HA.out
                          clear HA
                          simp only [samphireref02_Gcd.j4] at H
                          have H' := Aside0.mk H
                          clear H
                          go_wp2
                          go_loopg [1] kj19 (fun kq v1 w' => ∃ (x1_5 : List Int), Aside0 (samphireref02_Gcd.l3 kq x0_19 x1_5 x5_1 = some r) ∧ Aside0 (kq ≤ kj19) ∧ Aside0 (Kd.V (Kd.int .u32) 34 w' w.heap.size (fun k_ => ((P0_ k_ ∨ P1_ k_) ∨ w.heap.size ≤ k_)) u0 x0_19) ∧ Aside0 (Kd.V (Kd.int .u32) 34 w' w.heap.size (fun k_ => ((P0_ k_ ∨ P1_ k_) ∨ w.heap.size ≤ k_)) v1 x1_5) ∧ Aside0 (Below w.heap.size w w'))
                          case atStart => exact ⟨(x1_3), H', ⟨Nat.le_refl _⟩, ⟨by (with_reducible repeat (first | apply Kd.V_alloc | apply Kd.V_drewN | apply Kd.V_drew)); exact HO_0.out⟩, ⟨by (with_reducible repeat (first | apply Kd.V_alloc | apply Kd.V_drewN | apply Kd.V_drew)); exact HO_1.out⟩, ⟨BL⟩⟩
                          case round =>
                            clear H'
                            try clear c1
                            try clear c2
                            try clear p2
                            try clear c3
                            try clear c3b0
                            try clear c3b1
                            try clear c3b2
                            try clear c4
                            try clear c4b0
                            try clear c4b1
                            try clear c4b2
                            try clear c5
                            try clear p6
                            try clear c7
                            try clear c12
                            try clear c19
                            try clear c19b0
                            try clear c19b1
                            try clear c23
                            try clear c24
                            try clear c24b0
                            try clear c24b1
                            try clear p2
                            try clear p6
                            obtain ⟨x1_5, HA, HK5, HO_0, HO_1, HB⟩ := hrel
                            cases gk with
                            | zero => exact absurd HA.out (by simp [samphireref02_Gcd.l3])
                            | succ k5 =>
                              have H := HA.out
                              clear HA
                              simp only [samphireref02_Gcd.l3] at H
                              obtain ⟨t376, A30, H⟩ := bind_p H
                              by_cases c31 : t376 = true
                              · subst c31
                                have H1 : ((samphireref02_half.f k5 x1_5).bind fun t377 => (samphireref02_Gcd.l3 k5 x0_19 t377 x5_1)) = some r := by rw [if_pos rfl] at H; exact H
                                clear H
                                have H := H1
                                clear H1
                                obtain ⟨t377, A32, H⟩ := bind_p H
                                have H' := Aside0.mk H
                                clear H
                                obtain ⟨Ao33, co33, eo33⟩ := Kd.V_slice HO_1.out
                                subst eo33
                                go_wp2_with (first | ((with_reducible refine gate_callee (f := 57) rfl ?_); refine goesL_ (some 39) rfl rfl Tryd.func57 (by kernel_rfl) rfl #[.slice Ao33 x1_5.length co33] rfl EQ ?_; (with_reducible refine (samphireref02_even.calls _ _ x1_5 true _ ?side1 ?side2 A30.out).mono ?_); (case side1 => repeat (first | exact (Kd.V_reads' HO_1.out).2.2 | (with_reducible refine Kd.C_alloc ?_ _) | (with_reducible refine Kd.C_drewN ?_ _) | (with_reducible refine Kd.C_drew ?_))); (case side2 => exact (Kd.V_reads' HO_1.out).2.1); rintro e w' ⟨rfl, ⟨nd, rfl⟩⟩; refine ⟨_, rfl, ?_⟩) | ((with_reducible refine gate_callee (f := 58) rfl ?_); refine goesL_ (some 41) rfl rfl Tryd.func58 (by kernel_rfl) rfl #[.slice Ao33 x1_5.length co33] rfl EQ ?_; (with_reducible refine (samphireref02_half.calls k5 _ _ x1_5 t377 _ ?side1 ?side2 A32.out).mono ?_); (case side1 => repeat (first | exact (Kd.V_reads' HO_1.out).2.2 | (with_reducible refine Kd.C_alloc ?_ _) | (with_reducible refine Kd.C_drewN ?_ _) | (with_reducible refine Kd.C_drew ?_))); (case side2 => exact (Kd.V_reads' HO_1.out).2.1); rintro e w34 ⟨v378, rfl, ho0, hb⟩; refine ⟨_, rfl, ?_⟩; have n0_ := Aside0.mk (Kd.V_elder' (by (with_reducible repeat (first | apply Kd.V_alloc | apply Kd.V_drewN | apply Kd.V_drew)); exact HO_0.out) (Kd.R_base ho0) hb); have n1_ := Aside0.mk (Kd.V_elder' (by (with_reducible repeat (first | apply Kd.V_alloc | apply Kd.V_drewN | apply Kd.V_drew)); exact HO_1.out) (Kd.R_base ho0) hb); have n2_ := Aside0.mk (Kd.R_lower (Kd.R_newM (M := fun k_ => (w.heap.size ≤ k_)) ho0 (below_size BL) (fun k_ h_ => h_)) (below_size BL)); have n3_ := Aside0.mk (below_step BL hb); clear HO_0; clear HO_1; clear HB; have HO_0 := n0_; have HO_1 := n1_; have HO379 := n2_; have HB := n3_; clear n0_ n1_ n2_ n3_; (try clear hb); (try clear hb2); (try clear hk); (try clear hi); (try clear ho0)))
                                go_roundg k5
                                case measure => have := HK1.out; have := HJ4.out; have := HK3.out; have := HJ19.out; have := HK5.out; omega
                                case rel => exact ⟨(t377), H', ⟨by have := HK1.out; have := HJ4.out; have := HK3.out; have := HJ19.out; have := HK5.out; omega⟩, ⟨by (with_reducible repeat (first | apply Kd.V_alloc | apply Kd.V_drewN | apply Kd.V_drew)); exact Kd.V_mono HO_0.out (fun _ hk => hk.1)⟩, ⟨Kd.V_mono (Kd.R_V (by (with_reducible repeat (first | apply Kd.R_alloc | apply Kd.R_drewN | apply Kd.R_drew)); exact Kd.R_mono HO379.out (fun _ hk => hk.1))) (fun k_ hk => by first | exact ⟨(.inr (hk.1)), hk.2⟩ | exact (.inr (hk)))⟩, ⟨BL⟩⟩
                              · replace c31 := Bool.eq_false_iff.mpr c31
                                subst c31
                                have H1 : ((samphireref02_Cmp.f k5 x0_19 x1_5).bind fun t380 => (if t380 < 0 then ((samphireref02_Sub.f k5 x1_5 x0_19).bind fun t381 => (samphireref02_Gcd.l1 k5 t381 x0_19 x5_1)) else ((samphireref02_Sub.f k5 x0_19 x1_5).bind fun t384 => (samphireref02_Gcd.l1 k5 t384 x1_5 x5_1)))) = some r := by rw [if_neg (show ¬ (false = true) by decide)] at H; exact H
                                clear H
                                have H := H1
                                clear H1
                                obtain ⟨t380, A35, H⟩ := bind_p H
                                by_cases c36 : t380 < 0
                                · rw [if_pos c36] at H
                                  have c36b0 : decide (t380 < 0) = true := decide_eq_true c36
                                  clear c36
                                  obtain ⟨t381, A37, H⟩ := bind_p H
                                  have H' := Aside0.mk H
                                  clear H
                                  obtain ⟨Ao38, co38, eo38⟩ := Kd.V_slice HO_1.out
                                  subst eo38
                                  go_wp2_with (first | ((with_reducible refine gate_callee (f := 57) rfl ?_); refine goesL_ (some 39) rfl rfl Tryd.func57 (by kernel_rfl) rfl #[.slice Ao38 x1_5.length co38] rfl EQ ?_; (with_reducible refine (samphireref02_even.calls _ _ x1_5 false _ ?side1 ?side2 A30.out).mono ?_); (case side1 => repeat (first | exact (Kd.V_reads' HO_1.out).2.2 | (with_reducible refine Kd.C_alloc ?_ _) | (with_reducible refine Kd.C_drewN ?_ _) | (with_reducible refine Kd.C_drew ?_))); (case side2 => exact (Kd.V_reads' HO_1.out).2.1); rintro e w' ⟨rfl, ⟨nd, rfl⟩⟩; refine ⟨_, rfl, ?_⟩; obtain ⟨Ao39, co39, eo39⟩ := Kd.V_slice HO_0.out; subst eo39) | ((with_reducible refine gate_callee (f := 51) rfl ?_); refine goesL_ (some 44) rfl rfl Tryd.func51 (by kernel_rfl) rfl #[.slice Ao39 x0_19.length co39, .slice Ao38 x1_5.length co38] rfl EQ ?_; (with_reducible refine (samphireref02_Cmp.calls k5 _ _ x0_19 _ _ x1_5 t380 _ ?side1 ?side2 ?side3 ?side4 A35.out).mono ?_); (case side1 => repeat (first | exact (Kd.V_reads' HO_0.out).2.2 | (with_reducible refine Kd.C_alloc ?_ _) | (with_reducible refine Kd.C_drewN ?_ _) | (with_reducible refine Kd.C_drew ?_))); (case side2 => exact (Kd.V_reads' HO_0.out).2.1); (case side3 => repeat (first | exact (Kd.V_reads' HO_1.out).2.2 | (with_reducible refine Kd.C_alloc ?_ _) | (with_reducible refine Kd.C_drewN ?_ _) | (with_reducible refine Kd.C_drew ?_))); (case side4 => exact (Kd.V_reads' HO_1.out).2.1); rintro e w' ⟨rfl, ⟨nd, rfl⟩⟩; refine ⟨_, rfl, ?_⟩) | ((with_reducible refine gate_callee (f := 53) rfl ?_); refine goesL_ (some 50) rfl rfl Tryd.func53 (by kernel_rfl) rfl #[.slice Ao38 x1_5.length co38, .slice Ao39 x0_19.length co39] rfl EQ ?_; (with_reducible refine (samphireref02_Sub.calls k5 _ _ x1_5 _ _ x0_19 t381 _ ?side1 ?side2 ?side3 ?side4 A37.out).mono ?_); (case side1 => repeat (first | exact (Kd.V_reads' HO_1.out).2.2 | (with_reducible refine Kd.C_alloc ?_ _) | (with_reducible refine Kd.C_drewN ?_ _) | (with_reducible refine Kd.C_drew ?_))); (case side2 => exact (Kd.V_reads' HO_1.out).2.1); (case side3 => repeat (first | exact (Kd.V_reads' HO_0.out).2.2 | (with_reducible refine Kd.C_alloc ?_ _) | (with_reducible refine Kd.C_drewN ?_ _) | (with_reducible refine Kd.C_drew ?_))); (case side4 => exact (Kd.V_reads' HO_0.out).2.1); rintro e w40 ⟨v382, rfl, ho0, hb⟩; refine ⟨_, rfl, ?_⟩; have n0_ := Aside0.mk (Kd.V_elder' (by (with_reducible repeat (first | apply Kd.V_alloc | apply Kd.V_drewN | apply Kd.V_drew)); exact HO_0.out) (Kd.R_base ho0) hb); have n1_ := Aside0.mk (Kd.V_elder' (by (with_reducible repeat (first | apply Kd.V_alloc | apply Kd.V_drewN | apply Kd.V_drew)); exact HO_1.out) (Kd.R_base ho0) hb); have n2_ := Aside0.mk (Kd.R_lower (Kd.R_newM (M := fun k_ => (w.heap.size ≤ k_)) ho0 (below_size BL) (fun k_ h_ => h_)) (below_size BL)); have n3_ := Aside0.mk (below_step BL hb); clear HO_0; clear HO_1; clear HB; have HO_0 := n0_; have HO_1 := n1_; have HO383 := n2_; have HB := n3_; clear n0_ n1_ n2_ n3_; (try clear hb); (try clear hb2); (try clear hk); (try clear hi); (try clear ho0)))
                                  go_roundg k5
                                  case measure => have := HK1.out; have := HJ4.out; have := HK3.out; have := HJ19.out; have := HK5.out; omega
                                  case rel => exact ⟨(t381), (x0_19), H', ⟨by have := HK1.out; have := HJ4.out; have := HK3.out; have := HJ19.out; have := HK5.out; omega⟩, ⟨Kd.V_mono (Kd.R_V (by (with_reducible repeat (first | apply Kd.R_alloc | apply Kd.R_drewN | apply Kd.R_drew)); exact Kd.R_mono HO383.out (fun _ hk => hk.1))) (fun k_ hk => by first | exact ⟨(.inr (hk.1)), hk.2⟩ | exact (.inr (hk)))⟩, ⟨by (with_reducible repeat (first | apply Kd.V_alloc | apply Kd.V_drewN | apply Kd.V_drew)); exact Kd.V_mono HO_0.out (fun _ hk => hk.1)⟩, ⟨BL⟩⟩
                                · rw [if_neg c36] at H
                                  have c36b0 : decide (t380 < 0) = false := decide_eq_false c36
                                  clear c36
                                  obtain ⟨t384, A41, H⟩ := bind_p H
                                  have H' := Aside0.mk H
                                  clear H
                                  obtain ⟨Ao42, co42, eo42⟩ := Kd.V_slice HO_1.out
                                  subst eo42
                                  go_wp2_with (first | ((with_reducible refine gate_callee (f := 57) rfl ?_); refine goesL_ (some 39) rfl rfl Tryd.func57 (by kernel_rfl) rfl #[.slice Ao42 x1_5.length co42] rfl EQ ?_; (with_reducible refine (samphireref02_even.calls _ _ x1_5 false _ ?side1 ?side2 A30.out).mono ?_); (case side1 => repeat (first | exact (Kd.V_reads' HO_1.out).2.2 | (with_reducible refine Kd.C_alloc ?_ _) | (with_reducible refine Kd.C_drewN ?_ _) | (with_reducible refine Kd.C_drew ?_))); (case side2 => exact (Kd.V_reads' HO_1.out).2.1); rintro e w' ⟨rfl, ⟨nd, rfl⟩⟩; refine ⟨_, rfl, ?_⟩; obtain ⟨Ao43, co43, eo43⟩ := Kd.V_slice HO_0.out; subst eo43) | ((with_reducible refine gate_callee (f := 51) rfl ?_); refine goesL_ (some 44) rfl rfl Tryd.func51 (by kernel_rfl) rfl #[.slice Ao43 x0_19.length co43, .slice Ao42 x1_5.length co42] rfl EQ ?_; (with_reducible refine (samphireref02_Cmp.calls k5 _ _ x0_19 _ _ x1_5 t380 _ ?side1 ?side2 ?side3 ?side4 A35.out).mono ?_); (case side1 => repeat (first | exact (Kd.V_reads' HO_0.out).2.2 | (with_reducible refine Kd.C_alloc ?_ _) | (with_reducible refine Kd.C_drewN ?_ _) | (with_reducible refine Kd.C_drew ?_))); (case side2 => exact (Kd.V_reads' HO_0.out).2.1); (case side3 => repeat (first | exact (Kd.V_reads' HO_1.out).2.2 | (with_reducible refine Kd.C_alloc ?_ _) | (with_reducible refine Kd.C_drewN ?_ _) | (with_reducible refine Kd.C_drew ?_))); (case side4 => exact (Kd.V_reads' HO_1.out).2.1); rintro e w' ⟨rfl, ⟨nd, rfl⟩⟩; refine ⟨_, rfl, ?_⟩) | ((with_reducible refine gate_callee (f := 53) rfl ?_); refine goesL_ (some 50) rfl rfl Tryd.func53 (by kernel_rfl) rfl #[.slice Ao43 x0_19.length co43, .slice Ao42 x1_5.length co42] rfl EQ ?_; (with_reducible refine (samphireref02_Sub.calls k5 _ _ x0_19 _ _ x1_5 t384 _ ?side1 ?side2 ?side3 ?side4 A41.out).mono ?_); (case side1 => repeat (first | exact (Kd.V_reads' HO_0.out).2.2 | (with_reducible refine Kd.C_alloc ?_ _) | (with_reducible refine Kd.C_drewN ?_ _) | (with_reducible refine Kd.C_drew ?_))); (case side2 => exact (Kd.V_reads' HO_0.out).2.1); (case side3 => repeat (first | exact (Kd.V_reads' HO_1.out).2.2 | (with_reducible refine Kd.C_alloc ?_ _) | (with_reducible refine Kd.C_drewN ?_ _) | (with_reducible refine Kd.C_drew ?_))); (case side4 => exact (Kd.V_reads' HO_1.out).2.1); rintro e w44 ⟨v385, rfl, ho0, hb⟩; refine ⟨_, rfl, ?_⟩; have n0_ := Aside0.mk (Kd.V_elder' (by (with_reducible repeat (first | apply Kd.V_alloc | apply Kd.V_drewN | apply Kd.V_drew)); exact HO_0.out) (Kd.R_base ho0) hb); have n1_ := Aside0.mk (Kd.V_elder' (by (with_reducible repeat (first | apply Kd.V_alloc | apply Kd.V_drewN | apply Kd.V_drew)); exact HO_1.out) (Kd.R_base ho0) hb); have n2_ := Aside0.mk (Kd.R_lower (Kd.R_newM (M := fun k_ => (w.heap.size ≤ k_)) ho0 (below_size BL) (fun k_ h_ => h_)) (below_size BL)); have n3_ := Aside0.mk (below_step BL hb); clear HO_0; clear HO_1; clear HB; have HO_0 := n0_; have HO_1 := n1_; have HO386 := n2_; have HB := n3_; clear n0_ n1_ n2_ n3_; (try clear hb); (try clear hb2); (try clear hk); (try clear hi); (try clear ho0)))
                                  go_roundg k5
                                  case measure => have := HK1.out; have := HJ4.out; have := HK3.out; have := HJ19.out; have := HK5.out; omega
                                  case rel => exact ⟨(t384), (x1_5), H', ⟨by have := HK1.out; have := HJ4.out; have := HK3.out; have := HJ19.out; have := HK5.out; omega⟩, ⟨Kd.V_mono (Kd.R_V (by (with_reducible repeat (first | apply Kd.R_alloc | apply Kd.R_drewN | apply Kd.R_drew)); exact Kd.R_mono HO386.out (fun _ hk => hk.1))) (fun k_ hk => by first | exact ⟨(.inr (hk.1)), hk.2⟩ | exact (.inr (hk)))⟩, ⟨by (with_reducible repeat (first | apply Kd.V_alloc | apply Kd.V_drewN | apply Kd.V_drew)); exact Kd.V_mono HO_1.out (fun _ hk => hk.1)⟩, ⟨BL⟩⟩
                    · rw [if_neg c19] at H
                      have c19b0 : decide (0 < (x0_3.length : Int)) = false := decide_eq_false c19
                      have c19b1 : decide (0 < x0_3.length) = false := decide_eq_false (by omega)
                      clear c19
                      have H' := Aside0.mk H
                      clear H
                      obtain ⟨Ao45, co45, eo45⟩ := Kd.V_slice HO_0.out
                      subst eo45
                      go_wp2
                      go_loopg [1, 5] k3 (fun kq v1 v5 w' => ∃ (x1_4 : List Int) (x5_4 : Int), v5 = .int .i64 x5_4 ∧ Aside0 (samphireref02_Gcd.l4 kq x1_4 x5_4 = some r) ∧ Aside0 (kq ≤ k3) ∧ Aside0 (Kd.V (Kd.int .u32) 34 w' w.heap.size (fun k_ => ((P0_ k_ ∨ P1_ k_) ∨ w.heap.size ≤ k_)) v1 x1_4) ∧ Aside0 (Below w.heap.size w w'))
                      case atStart => exact ⟨(x1_3), (x5_1), (by first | rfl | (simp; done) | (simp [*]; done) | (simp; exact isEmpty_bne _)), H', ⟨Nat.le_refl _⟩, ⟨by (with_reducible repeat (first | apply Kd.V_alloc | apply Kd.V_drewN | apply Kd.V_drew)); exact HO_1.out⟩, ⟨BL⟩⟩
                      case round =>
                        clear H'
                        try clear c1
                        try clear c2
                        try clear p2
                        try clear c3
                        try clear c3b0
                        try clear c3b1
                        try clear c3b2
                        try clear c4
                        try clear c4b0
                        try clear c4b1
                        try clear c4b2
                        try clear c5
                        try clear p6
                        try clear c7
                        try clear c12
                        try clear c19
                        try clear c19b0
                        try clear c19b1
                        try clear c23
                        try clear c24
                        try clear c24b0
                        try clear c24b1
                        try clear c31
                        try clear c36
                        try clear c36b0
                        try clear c38
                        try clear p2
                        try clear p6
                        obtain ⟨x1_4, x5_4, rfl, HA, HK4, HO_1, HB⟩ := hrel
                        cases gk with
                        | zero => exact absurd HA.out (by simp [samphireref02_Gcd.l4])
                        | succ k4 =>
                          have H := HA.out
                          clear HA
                          simp only [samphireref02_Gcd.l4] at H
                          by_cases c46 : x5_4 > 0
                          · rw [if_pos c46] at H
                            have c46b0 : decide (0 < x5_4) = true := decide_eq_true c46
                            clear c46
                            obtain ⟨t387, A47, H⟩ := bind_p H
                            have H' := Aside0.mk H
                            clear H
                            obtain ⟨Ao48, co48, eo48⟩ := Kd.V_slice HO_1.out
                            subst eo48
                            go_wp2_with (first | ((with_reducible refine gate_callee (f := 59) rfl ?_); refine goesL_ (some 54) rfl rfl Tryd.func59 (by kernel_rfl) rfl #[.slice Ao48 x1_4.length co48, .int .u32 0] rfl EQ ?_; (with_reducible refine (samphireref02_twice.calls k4 _ _ x1_4 0 t387 _ ?side1 ?side2 A47.out).mono ?_); (case side1 => repeat (first | exact (Kd.V_reads' HO_1.out).2.2 | (with_reducible refine Kd.C_alloc ?_ _) | (with_reducible refine Kd.C_drewN ?_ _) | (with_reducible refine Kd.C_drew ?_))); (case side2 => exact (Kd.V_reads' HO_1.out).2.1); rintro e w49 ⟨v388, rfl, ho0, hb⟩; refine ⟨_, rfl, ?_⟩; have n0_ := Aside0.mk (Kd.V_elder' (by (with_reducible repeat (first | apply Kd.V_alloc | apply Kd.V_drewN | apply Kd.V_drew)); exact HO_1.out) (Kd.R_base ho0) hb); have n1_ := Aside0.mk (Kd.R_lower (Kd.R_newM (M := fun k_ => (w.heap.size ≤ k_)) ho0 (below_size BL) (fun k_ h_ => h_)) (below_size BL)); have n2_ := Aside0.mk (below_step BL hb); clear HO_1; clear HB; have HO_1 := n0_; have HO389 := n1_; have HB := n2_; clear n0_ n1_ n2_; (try clear hb); (try clear hb2); (try clear hk); (try clear hi); (try clear ho0)))
                            go_roundg k4
                            case measure => have := HK1.out; have := HJ4.out; have := HK3.out; have := HK4.out; omega
                            case rel => exact ⟨(t387), (wrap64 (x5_4 - 1)), (by first | rfl | (simp; done) | (simp [*]; done) | (simp; exact isEmpty_bne _)), H', ⟨by have := HK1.out; have := HJ4.out; have := HK3.out; have := HK4.out; omega⟩, ⟨Kd.V_mono (Kd.R_V (by (with_reducible repeat (first | apply Kd.R_alloc | apply Kd.R_drewN | apply Kd.R_drew)); exact Kd.R_mono HO389.out (fun _ hk => hk.1))) (fun k_ hk => by first | exact ⟨(.inr (hk.1)), hk.2⟩ | exact (.inr (hk)))⟩, ⟨BL⟩⟩
                          · rw [if_neg c46] at H
                            have c46b0 : decide (0 < x5_4) = false := decide_eq_false c46
                            clear c46
                            obtain rfl := Option.some.inj H
                            go_wp2
                            go_ret
                            exact ⟨_, by first | rfl | (simp [errW_none, errW_some] <;> rfl) | (simp [*, errW_none, errW_some] <;> rfl), by (with_reducible repeat (first | apply Kd.V_alloc | apply Kd.V_drewN | apply Kd.V_drew)); exact HO_1.out, BL⟩

end Go.Proofs.YtecbbenfcepohaaDoor.K
