-- Printed by this session's own program out of the translation.
import Derived.Test.YtecbbenfcepohaaDoorKx0
import Derived.Test.YtecbbenfcepohaaDoorKx3
import Derived.Test.YtecbbenfcepohaaDoorKx4
namespace Go.Proofs.YtecbbenfcepohaaDoor.K
open Go.RowKit Go.Proofs.YtecbbenfcepohaaDoorW.PrintWords Go.Proofs.YtecbbenfcepohaaDoorW.PrintLast Go.Proofs.YtecbbenfcepohaaDoorW.PrintMore
attribute [local go_sem] max2_int min2_int max_two min_two max_three min_three max_four min_four   -- for this text's walks alone
set_option linter.unusedVariables false
set_option linter.unusedSimpArgs false

/-! ### samphireref02_Bits: function 60 -/
set_option maxHeartbeats 8000000 in
set_option maxRecDepth 100000 in
theorem samphireref02_Bits.calls (k : Nat) (A0 : Option Addr) (c0 : Nat) (l0 : List Int) (r : Int) (w : World) (hr0 : Kd.C (Kd.int .u32) w A0 l0.length l0) (hc0 : l0.length ≤ c0) (h : samphireref02_Bits.f k l0 = some r) :
    Calls Tryd.prog 60 #[.slice A0 l0.length c0] w fun e w' => e = .returned (.int .i64 r) ∧ Drawn0 w w' := by
  have HR0 := Aside0.mk hr0
  have HC0 := Aside0.mk hc0
  clear hr0 hc0
  have H : (samphireref02_Bits.l0 k l0 0 0) = some r := h
  clear h
  have H' := Aside0.mk H
  clear H
  go_enter Tryd.func60, Tryd.ntmps60
  go_wp2
  go_loopg [3, 4] k (fun kq v3 v4 w' => ∃ (x3_1 : Int) (x4_1 : Int), v3 = .int .i64 x3_1 ∧ v4 = .int .i64 x4_1 ∧ Aside0 (samphireref02_Bits.l0 kq l0 x3_1 x4_1 = some r) ∧ Aside0 (kq ≤ k) ∧ Drawn0 w w')
  case atStart => exact ⟨(0), (0), (by first | rfl | (simp; done) | (simp [*]; done) | (simp; exact isEmpty_bne _)), (by first | rfl | (simp; done) | (simp [*]; done) | (simp; exact isEmpty_bne _)), H', ⟨Nat.le_refl _⟩, by repeat (first | exact Drawn0.refl _ | apply Drawn0.step)⟩
  case round =>
    clear H'
    obtain ⟨x3_1, x4_1, rfl, rfl, HA, HK1, ⟨m1, rfl⟩⟩ := hrel
    cases gk with
    | zero => exact absurd HA.out (by simp [samphireref02_Bits.l0])
    | succ k1 =>
      have H := HA.out
      clear HA
      simp only [samphireref02_Bits.l0] at H
      by_cases c2 : x4_1 < (l0.length : Int)
      · rw [if_pos c2] at H
        have c2b0 : decide (x4_1 < (l0.length : Int)) = true := decide_eq_true c2
        clear c2
        have H' := Aside0.mk H
        clear H
        go_wp2
        go_loopg [3, 5] k1 (fun kq v3 v5 w' => ∃ (x3_2 : Int) (x5_2 : Int), v3 = .int .i64 x3_2 ∧ v5 = .int .i64 x5_2 ∧ Aside0 (samphireref02_Bits.l1 kq l0 x3_2 x4_1 x5_2 = some r) ∧ Aside0 (kq ≤ k1) ∧ Drawn0 w w')
        case atStart => exact ⟨(x3_1), (0), (by first | rfl | (simp; done) | (simp [*]; done) | (simp; exact isEmpty_bne _)), (by first | rfl | (simp; done) | (simp [*]; done) | (simp; exact isEmpty_bne _)), H', ⟨Nat.le_refl _⟩, by repeat (first | exact Drawn0.refl _ | apply Drawn0.step)⟩
        case round =>
          clear H'
          try clear c2
          try clear c2b0
          try clear p2
          obtain ⟨x3_2, x5_2, rfl, rfl, HA, HK2, ⟨m2, rfl⟩⟩ := hrel
          cases gk with
          | zero => exact absurd HA.out (by simp [samphireref02_Bits.l1])
          | succ k2 =>
            have H := HA.out
            clear HA
            simp only [samphireref02_Bits.l1] at H
            by_cases c3 : x5_2 < 32
            · rw [if_pos c3] at H
              have c3b0 : decide (x5_2 < 32) = true := decide_eq_true c3
              clear c3
              obtain ⟨c4, H⟩ := ite_p H
              have c4b0 : decide (0 ≤ x4_1) = true := decide_eq_true c4
              clear c4
              obtain ⟨c5, H⟩ := ite_p H
              have c5b0 : decide (x4_1 < (l0.length : Int)) = true := decide_eq_true c5
              clear c5
              obtain ⟨ji6, hji6⟩ := let_j (IntKind.u64.wrap (x5_2))
              (first | rw [hji6] at H | simp only [hji6] at H ⊢)
              obtain ⟨c7, H⟩ := ite_p H
              have c7b0 := eq_true c7
              have c7b1 : decide (0 ≤ (ji6)) = true := decide_eq_true c7
              clear c7
              obtain ⟨ji8, hji8⟩ := let_j (shr .u32 (rd l0 x4_1) (ji6))
              (first | rw [hji8] at H | simp only [hji8] at H ⊢)
              have hji8_ : ((rd l0 x4_1) / 2 ^ min (ji6).toNat 32) = ji8 := hji8
              have hji8z : (ji6) ≤ 32 → ((rd l0 x4_1) / 2 ^ (ji6).toNat) = ji8 := shr_small hji8
              by_cases c9 : (Int.tmod (ji8) 2) = 1
              · rw [if_pos c9] at H
                have c9b0 : ((Int.tmod (ji8) 2) == 1) = true := beq_iff_eq.mpr c9
                have c9b1 : ((Int.tmod (ji8) 2) != 1) = false := bne_eq_false_iff_eq.mpr c9
                clear c9
                have H' := Aside0.mk H
                clear H
                have p390 : 0 ≤ (x4_1 : Int) := DA
                have q390 : x4_1 < (l0.length : Int) := DA
                obtain ⟨ad390, e390, hx390_0⟩ := Kd.at_int HR0.out x4_1 p390 q390
                cases e390
                replace p390 := eq_true p390
                replace q390 := eq_true q390
                go_wp2
                go_roundg k2
                case measure => have := HK1.out; have := HK2.out; omega
                case rel => exact ⟨(wrap64 ((wrap64 ((wrap64 (32 * x4_1)) + x5_2)) + 1)), (wrap64 (x5_2 + 1)), (by first | rfl | (simp; done) | (simp [*]; done) | (simp; exact isEmpty_bne _)), (by first | rfl | (simp; done) | (simp [*]; done) | (simp; exact isEmpty_bne _)), H', ⟨by have := HK1.out; have := HK2.out; omega⟩, by repeat (first | exact Drawn0.refl _ | apply Drawn0.step)⟩
              · rw [if_neg c9] at H
                have c9b0 : ((Int.tmod (ji8) 2) == 1) = false := beq_eq_false_iff_ne.mpr c9
                have c9b1 : ((Int.tmod (ji8) 2) != 1) = true := bne_iff_ne.mpr c9
                have H' := Aside0.mk H
                clear H
                have p390 : 0 ≤ (x4_1 : Int) := DA
                have q390 : x4_1 < (l0.length : Int) := DA
                obtain ⟨ad390, e390, hx390_0⟩ := Kd.at_int HR0.out x4_1 p390 q390
                cases e390
                replace p390 := eq_true p390
                replace q390 := eq_true q390
                go_wp2
                go_roundg k2
                case measure => have := HK1.out; have := HK2.out; omega
                case rel => exact ⟨(x3_2), (wrap64 (x5_2 + 1)), (by first | rfl | (simp; done) | (simp [*]; done) | (simp; exact isEmpty_bne _)), (by first | rfl | (simp; done) | (simp [*]; done) | (simp; exact isEmpty_bne _)), H', ⟨by have := HK1.out; have := HK2.out; omega⟩, by repeat (first | exact Drawn0.refl _ | apply Drawn0.step)⟩
            · rw [if_neg c3] at H
              have c3b0 : decide (x5_2 < 32) = false := decide_eq_false c3
              clear c3
              have H' := Aside0.mk H
              clear H
              go_wp2
              go_roundg k2
              case measure => have := HK1.out; have := HK2.out; omega
              case rel => exact ⟨(x3_2), (wrap64 (x4_1 + 1)), (by first | rfl | (simp; done) | (simp [*]; done) | (simp; exact isEmpty_bne _)), (by first | rfl | (simp; done) | (simp [*]; done) | (simp; exact isEmpty_bne _)), H', ⟨by have := HK1.out; have := HK2.out; omega⟩, by repeat (first | exact Drawn0.refl _ | apply Drawn0.step)⟩
      · rw [if_neg c2] at H
        have c2b0 : decide (x4_1 < (l0.length : Int)) = false := decide_eq_false c2
        clear c2
        obtain rfl := Option.some.inj H
        go_wp2
        go_ret
        exact ⟨by first | rfl | (simp; done) | (simp [*]; done) | (simp; exact isEmpty_bne _), by repeat (first | exact Drawn0.refl _ | apply Drawn0.step)⟩

/-! ### samphireref02_Div: function 39 -/
set_option maxHeartbeats 8000000 in
set_option maxRecDepth 100000 in
theorem samphireref02_Div.calls (k : Nat) (A0 : Option Addr) (c0 : Nat) (l0 : List Int) (A1 : Option Addr) (c1 : Nat) (l1 : List Int) (r1 : List Int) (r2 : List Int) (w : World) (hr0 : Kd.C (Kd.int .u32) w A0 l0.length l0) (hc0 : l0.length ≤ c0) (hr1 : Kd.C (Kd.int .u32) w A1 l1.length l1) (hc1 : l1.length ≤ c1) (h : samphireref02_Div.f k l0 l1 = some (r1, r2)) :
    Calls Tryd.prog 39 #[.slice A0 l0.length c0, .slice A1 l1.length c1] w fun e w' => ∃ v0_ v1_ : Value, e = .returned (.tuple #[v0_, v1_]) ∧ Kd.R (Kd.int .u32) 34 w' w.heap.size (fun k_ => some k_ ≠ (v1_ : Value).ownBlock) v0_ r1 ∧ Kd.R (Kd.int .u32) 34 w' w.heap.size (fun k_ => some k_ ≠ (v0_ : Value).ownBlock) v1_ r2 ∧ Below w.heap.size w w' := by
  have HR0 := Aside0.mk hr0
  have HC0 := Aside0.mk hc0
  clear hr0 hc0
  have HR1 := Aside0.mk hr1
  have HC1 := Aside0.mk hc1
  clear hr1 hc1
  have HB := Aside0.mk (Below.refl w.heap.size w)
  have H : ((samphireref02_Bits.f k l0).bind fun t391 => (samphireref02_Div.l0 k l0 l1 ([] : List Int) ([] : List Int) (wrap64 (t391 - 1)))) = some (r1, r2) := h
  clear h
  obtain ⟨t391, A3, H⟩ := bind_p H
  have H' := Aside0.mk H
  clear H
  go_enter Tryd.func39, Tryd.ntmps39
  go_wp2_with (first | ((with_reducible refine gate_callee (f := 60) rfl ?_); refine goesL_ (some 10) rfl rfl Tryd.func60 (by kernel_rfl) rfl #[.slice A0 l0.length c0] rfl EQ ?_; (with_reducible refine (samphireref02_Bits.calls k _ _ l0 t391 _ ?side1 ?side2 A3.out).mono ?_); (case side1 => repeat (first | exact HR0.out | (with_reducible refine Kd.C_alloc ?_ _) | (with_reducible refine Kd.C_drewN ?_ _) | (with_reducible refine Kd.C_drew ?_))); (case side2 => exact HC0.out); rintro e w' ⟨rfl, ⟨nd, rfl⟩⟩; refine ⟨_, rfl, ?_⟩))
  go_loopg [6, 7, 8] k (fun kq v6 v7 v8 w' => ∃ (x6_1 : List Int) (x7_1 : List Int) (x8_1 : Int), v8 = .int .i64 x8_1 ∧ Aside0 (samphireref02_Div.l0 kq l0 l1 x6_1 x7_1 x8_1 = some (r1, r2)) ∧ Aside0 (kq ≤ k) ∧ Aside0 (Kd.R (Kd.int .u32) 34 w' w.heap.size (fun k_ => some k_ ≠ (v7 : Value).ownBlock) v6 x6_1) ∧ Aside0 (Kd.R (Kd.int .u32) 34 w' w.heap.size (fun k_ => some k_ ≠ (v6 : Value).ownBlock) v7 x7_1) ∧ Aside0 (Below w.heap.size w w'))
  case atStart => exact ⟨(([] : List Int)), (([] : List Int)), (wrap64 (t391 - 1)), (by first | rfl | (simp; done) | (simp [*]; done) | (simp; exact isEmpty_bne _)), H', ⟨Nat.le_refl _⟩, ⟨by first | exact Kd.R_nil _ _ _ _ _ | exact Kd.N_nil _ _ _ _ _ | exact Kd.V_nil _ _ _ _ _ | exact Kd.Q_nil _ _ _ _ _ | exact Kd.S_nil _ _ _ _ _⟩, ⟨by first | exact Kd.R_nil _ _ _ _ _ | exact Kd.N_nil _ _ _ _ _ | exact Kd.V_nil _ _ _ _ _ | exact Kd.Q_nil _ _ _ _ _ | exact Kd.S_nil _ _ _ _ _⟩, ⟨BL⟩⟩
  case round =>
    clear H'
    try clear c1
    try clear p2
    try clear c3
    obtain ⟨x6_1, x7_1, x8_1, rfl, HA, HK1, HO_6, HO_7, HB⟩ := hrel
    cases gk with
    | zero => exact absurd HA.out (by simp [samphireref02_Div.l0])
    | succ k1 =>
      have H := HA.out
      clear HA
      simp only [samphireref02_Div.l0] at H
      by_cases c4 : x8_1 ≥ 0
      · rw [if_pos c4] at H
        have c4b0 : decide (0 ≤ x8_1) = true := decide_eq_true c4
        clear c4
        obtain ⟨ji5, hji5⟩ := let_j (wrap64 (Int.tdiv x8_1 32))
        (first | rw [hji5] at H | simp only [hji5] at H ⊢)
        have hji5w : (IntKind.i64.wrap (Int.tdiv x8_1 32)) = ji5 := (i64_w _).trans hji5
        obtain ⟨c6, H⟩ := ite_p H
        have c6b0 : decide (0 ≤ (ji5)) = true := decide_eq_true c6
        clear c6
        obtain ⟨c7, H⟩ := ite_p H
        have c7b0 : decide ((ji5) < (l0.length : Int)) = true := decide_eq_true c7
        clear c7
        obtain ⟨ji8, hji8⟩ := let_j (IntKind.u64.wrap (Int.tmod x8_1 32))
        (first | rw [hji8] at H | simp only [hji8] at H ⊢)
        obtain ⟨c9, H⟩ := ite_p H
        have c9b0 := eq_true c9
        have c9b1 : decide (0 ≤ (ji8)) = true := decide_eq_true c9
        clear c9
        obtain ⟨ji10, hji10⟩ := let_j (shr .u32 (rd l0 (ji5)) (ji8))
        (first | rw [hji10] at H | simp only [hji10] at H ⊢)
        have hji10_ : ((rd l0 (ji5)) / 2 ^ min (ji8).toNat 32) = ji10 := hji10
        have hji10z : (ji8) ≤ 32 → ((rd l0 (ji5)) / 2 ^ (ji8).toNat) = ji10 := shr_small hji10
        obtain ⟨t393, A11, H⟩ := bind_p H
        obtain ⟨t396, A12, H⟩ := bind_p H
        by_cases c13 : t396 ≥ 0
        · rw [if_pos c13] at H
          have c13b0 : decide (0 ≤ t396) = true := decide_eq_true c13
          clear c13
          obtain ⟨t397, A14, H⟩ := bind_p H
          obtain ⟨t400, A15, H⟩ := bind_p H
          have H' := Aside0.mk H
          clear H
          have p392 : 0 ≤ ((ji5) : Int) := DA
          have q392 : (ji5) < (l0.length : Int) := DA
          obtain ⟨ad392, e392, hx392_0⟩ := Kd.at_int HR0.out (ji5) p392 q392
          cases e392
          replace hx392_0 := (HB.out.cell (World.block_lt_of_cell? w _ hx392_0)).trans hx392_0
          replace p392 := eq_true p392
          replace q392 := eq_true q392
          obtain ⟨Ao16, co16, eo16⟩ := Kd.R_slice HO_7.out
          subst eo16
          go_wp2_with (first | ((with_reducible refine gate_callee (f := 59) rfl ?_); refine goesL_ (some 27) rfl rfl Tryd.func59 (by kernel_rfl) rfl #[.slice Ao16 x7_1.length co16, .int .u32 (Int.tmod (ji10) 2)] rfl (by (try simp only [List.map_toArray, List.map_cons, List.map_nil]); first | done | (simp only [hji10]; rfl) | rfl | (simp only [List.length_drop, List.length_take]; rfl)) ?_; (with_reducible refine (samphireref02_twice.calls k1 _ _ x7_1 (Int.tmod (ji10) 2) t393 _ ?side1 ?side2 A11.out).mono ?_); (case side1 => exact RR HO_7); (case side2 => exact (Kd.R_reads' HO_7.out).2.1); rintro e w17 ⟨v394, rfl, ho0, hb⟩; refine ⟨_, rfl, ?_⟩; have n0_ := Aside0.mk (Kd.R_elder' (RL HO_6) (Kd.R_base ho0) hb); have n1_ := Aside0.mk (Kd.R_elder' (RL HO_7) (Kd.R_base ho0) hb); have n2_ := Aside0.mk (Kd.R_lower (Kd.R_new' (Kd.R_new' ho0 (Kd.R_lt (RL HO_6))) (Kd.R_lt (RL HO_7))) (below_size BL)); have n3_ := Aside0.mk (below_step BL hb); clear HO_6; clear HO_7; clear HB; have HO_6 := n0_; have HO_7 := n1_; have HO395 := n2_; have HB := n3_; clear n0_ n1_ n2_ n3_; (try clear hb); (try clear hb2); (try clear hk); (try clear hi); (try clear ho0); obtain ⟨Ao18, co18, eo18⟩ := Kd.R_slice HO395.out; subst eo18) | ((with_reducible refine gate_callee (f := 51) rfl ?_); refine goesL_ (some 30) rfl rfl Tryd.func51 (by kernel_rfl) rfl #[.slice Ao18 t393.length co18, .slice A1 l1.length c1] rfl EQ ?_; (with_reducible refine (samphireref02_Cmp.calls k1 _ _ t393 _ _ l1 t396 _ ?side1 ?side2 ?side3 ?side4 A12.out).mono ?_); (case side1 => exact RR HO395); (case side2 => exact (Kd.R_reads' HO395.out).2.1); (case side3 => exact CB HR1); (case side4 => exact HC1.out); rintro e w' ⟨rfl, ⟨nd, rfl⟩⟩; refine ⟨_, rfl, ?_⟩) | ((with_reducible refine gate_callee (f := 53) rfl ?_); refine goesL_ (some 34) rfl rfl Tryd.func53 (by kernel_rfl) rfl #[.slice Ao18 t393.length co18, .slice A1 l1.length c1] rfl EQ ?_; (with_reducible refine (samphireref02_Sub.calls k1 _ _ t393 _ _ l1 t397 _ ?side1 ?side2 ?side3 ?side4 A14.out).mono ?_); (case side1 => exact RR HO395); (case side2 => exact (Kd.R_reads' HO395.out).2.1); (case side3 => repeat (first | exact (Kd.C_below HR1.out BL) | (with_reducible refine Kd.C_alloc ?_ _) | (with_reducible refine Kd.C_drewN ?_ _) | (with_reducible refine Kd.C_drew ?_))); (case side4 => exact HC1.out); rintro e w19 ⟨v398, rfl, ho0, hb⟩; refine ⟨_, rfl, ?_⟩; have n0_ := Aside0.mk (Kd.R_elder' (RL HO_6) (Kd.R_base ho0) hb); have n1_ := Aside0.mk (Kd.R_elder' (RL HO_7) (Kd.R_base ho0) hb); have n2_ := Aside0.mk (Kd.R_elder' (RL HO395) (Kd.R_base ho0) hb); have n3_ := Aside0.mk (Kd.R_lower (Kd.R_new' (Kd.R_new' (Kd.R_new' ho0 (Kd.R_lt (RL HO_6))) (Kd.R_lt (RL HO_7))) (Kd.R_lt (RL HO395))) (below_size BL)); have n4_ := Aside0.mk (below_step BL hb); clear HO_6; clear HO_7; clear HO395; clear HB; have HO_6 := n0_; have HO_7 := n1_; have HO395 := n2_; have HO399 := n3_; have HB := n4_; clear n0_ n1_ n2_ n3_ n4_; (try clear hb); (try clear hb2); (try clear hk); (try clear hi); (try clear ho0); obtain ⟨Ao20, co20, eo20⟩ := Kd.R_slice HO_6.out; subst eo20) | ((with_reducible refine gate_callee (f := 59) rfl ?_); refine goesL_ (some 36) rfl rfl Tryd.func59 (by kernel_rfl) rfl #[.slice Ao20 x6_1.length co20, .int .u32 1] rfl EQ ?_; (with_reducible refine (samphireref02_twice.calls k1 _ _ x6_1 1 t400 _ ?side1 ?side2 A15.out).mono ?_); (case side1 => exact RR HO_6); (case side2 => exact (Kd.R_reads' HO_6.out).2.1); rintro e w21 ⟨v401, rfl, ho0, hb⟩; refine ⟨_, rfl, ?_⟩; have n0_ := Aside0.mk (Kd.R_elder' (RL HO_6) (Kd.R_base ho0) hb); have n1_ := Aside0.mk (Kd.R_elder' (RL HO_7) (Kd.R_base ho0) hb); have n2_ := Aside0.mk (Kd.R_elder' (RL HO395) (Kd.R_base ho0) hb); have n3_ := Aside0.mk (Kd.R_elder' (RL HO399) (Kd.R_base ho0) hb); have n4_ := Aside0.mk (Kd.R_lower (Kd.R_new' (Kd.R_new' (Kd.R_new' (Kd.R_new' ho0 (Kd.R_lt (RL HO_6))) (Kd.R_lt (RL HO_7))) (Kd.R_lt (RL HO395))) (Kd.R_lt (RL HO399))) (below_size BL)); have n5_ := Aside0.mk (below_step BL hb); clear HO_6; clear HO_7; clear HO395; clear HO399; clear HB; have HO_6 := n0_; have HO_7 := n1_; have HO395 := n2_; have HO399 := n3_; have HO402 := n4_; have HB := n5_; clear n0_ n1_ n2_ n3_ n4_ n5_; (try clear hb); (try clear hb2); (try clear hk); (try clear hi); (try clear ho0)))
          go_roundg k1
          case measure => have := HK1.out; omega
          case rel => exact ⟨(t400), (t397), (wrap64 (x8_1 - 1)), (by first | rfl | (simp; done) | (simp [*]; done) | (simp; exact isEmpty_bne _)), H', ⟨by have := HK1.out; omega⟩, ⟨by (with_reducible repeat (first | apply Kd.R_alloc | apply Kd.R_drewN | apply Kd.R_drew)); exact Kd.R_mono HO402.out (fun _ hk => hk.2)⟩, ⟨by (with_reducible repeat (first | apply Kd.R_alloc | apply Kd.R_drewN | apply Kd.R_drew)); exact Kd.R_mono HO399.out (fun _ hk => hk.2)⟩, ⟨BL⟩⟩
        · rw [if_neg c13] at H
          have c13b0 : decide (0 ≤ t396) = false := decide_eq_false c13
          clear c13
          obtain ⟨t403, A22, H⟩ := bind_p H
          have H' := Aside0.mk H
          clear H
          have p392 : 0 ≤ ((ji5) : Int) := DA
          have q392 : (ji5) < (l0.length : Int) := DA
          obtain ⟨ad392, e392, hx392_0⟩ := Kd.at_int HR0.out (ji5) p392 q392
          cases e392
          replace hx392_0 := (HB.out.cell (World.block_lt_of_cell? w _ hx392_0)).trans hx392_0
          replace p392 := eq_true p392
          replace q392 := eq_true q392
          obtain ⟨Ao23, co23, eo23⟩ := Kd.R_slice HO_7.out
          subst eo23
          go_wp2_with (first | ((with_reducible refine gate_callee (f := 59) rfl ?_); refine goesL_ (some 27) rfl rfl Tryd.func59 (by kernel_rfl) rfl #[.slice Ao23 x7_1.length co23, .int .u32 (Int.tmod (ji10) 2)] rfl (by (try simp only [List.map_toArray, List.map_cons, List.map_nil]); first | done | (simp only [hji10]; rfl) | rfl | (simp only [List.length_drop, List.length_take]; rfl)) ?_; (with_reducible refine (samphireref02_twice.calls k1 _ _ x7_1 (Int.tmod (ji10) 2) t393 _ ?side1 ?side2 A11.out).mono ?_); (case side1 => exact RR HO_7); (case side2 => exact (Kd.R_reads' HO_7.out).2.1); rintro e w24 ⟨v394, rfl, ho0, hb⟩; refine ⟨_, rfl, ?_⟩; have n0_ := Aside0.mk (Kd.R_elder' (RL HO_6) (Kd.R_base ho0) hb); have n1_ := Aside0.mk (Kd.R_elder' (RL HO_7) (Kd.R_base ho0) hb); have n2_ := Aside0.mk (Kd.R_lower (Kd.R_new' (Kd.R_new' ho0 (Kd.R_lt (RL HO_6))) (Kd.R_lt (RL HO_7))) (below_size BL)); have n3_ := Aside0.mk (below_step BL hb); clear HO_6; clear HO_7; clear HB; have HO_6 := n0_; have HO_7 := n1_; have HO395 := n2_; have HB := n3_; clear n0_ n1_ n2_ n3_; (try clear hb); (try clear hb2); (try clear hk); (try clear hi); (try clear ho0); obtain ⟨Ao25, co25, eo25⟩ := Kd.R_slice HO395.out; subst eo25) | ((with_reducible refine gate_callee (f := 51) rfl ?_); refine goesL_ (some 30) rfl rfl Tryd.func51 (by kernel_rfl) rfl #[.slice Ao25 t393.length co25, .slice A1 l1.length c1] rfl EQ ?_; (with_reducible refine (samphireref02_Cmp.calls k1 _ _ t393 _ _ l1 t396 _ ?side1 ?side2 ?side3 ?side4 A12.out).mono ?_); (case side1 => exact RR HO395); (case side2 => exact (Kd.R_reads' HO395.out).2.1); (case side3 => exact CB HR1); (case side4 => exact HC1.out); rintro e w' ⟨rfl, ⟨nd, rfl⟩⟩; refine ⟨_, rfl, ?_⟩; obtain ⟨Ao26, co26, eo26⟩ := Kd.R_slice HO_6.out; subst eo26) | ((with_reducible refine gate_callee (f := 59) rfl ?_); refine goesL_ (some 38) rfl rfl Tryd.func59 (by kernel_rfl) rfl #[.slice Ao26 x6_1.length co26, .int .u32 0] rfl EQ ?_; (with_reducible refine (samphireref02_twice.calls k1 _ _ x6_1 0 t403 _ ?side1 ?side2 A22.out).mono ?_); (case side1 => exact RR HO_6); (case side2 => exact (Kd.R_reads' HO_6.out).2.1); rintro e w27 ⟨v404, rfl, ho0, hb⟩; refine ⟨_, rfl, ?_⟩; have n0_ := Aside0.mk (Kd.R_elder' (RL HO_6) (Kd.R_base ho0) hb); have n1_ := Aside0.mk (Kd.R_elder' (RL HO_7) (Kd.R_base ho0) hb); have n2_ := Aside0.mk (Kd.R_elder' (RL HO395) (Kd.R_base ho0) hb); have n3_ := Aside0.mk (Kd.R_lower (Kd.R_new' (Kd.R_new' (Kd.R_new' ho0 (Kd.R_lt (RL HO_6))) (Kd.R_lt (RL HO_7))) (Kd.R_lt (RL HO395))) (below_size BL)); have n4_ := Aside0.mk (below_step BL hb); clear HO_6; clear HO_7; clear HO395; clear HB; have HO_6 := n0_; have HO_7 := n1_; have HO395 := n2_; have HO405 := n3_; have HB := n4_; clear n0_ n1_ n2_ n3_ n4_; (try clear hb); (try clear hb2); (try clear hk); (try clear hi); (try clear ho0)))
          go_roundg k1
          case measure => have := HK1.out; omega
          case rel => exact ⟨(t403), (t393), (wrap64 (x8_1 - 1)), (by first | rfl | (simp; done) | (simp [*]; done) | (simp; exact isEmpty_bne _)), H', ⟨by have := HK1.out; omega⟩, ⟨by (with_reducible repeat (first | apply Kd.R_alloc | apply Kd.R_drewN | apply Kd.R_drew)); exact Kd.R_mono HO405.out (fun _ hk => hk.2)⟩, ⟨by (with_reducible repeat (first | apply Kd.R_alloc | apply Kd.R_drewN | apply Kd.R_drew)); exact Kd.R_mono HO395.out (fun _ hk => hk.2)⟩, ⟨BL⟩⟩
      · rw [if_neg c4] at H
        have c4b0 : decide (0 ≤ x8_1) = false := decide_eq_false c4
        clear c4
        simp only [Option.some.injEq, Prod.mk.injEq] at H
        obtain ⟨rfl, rfl⟩ := H
        go_wp2
        go_ret2
        exact ⟨_, _, by first | rfl | (simp [errW_none, errW_some] <;> rfl) | (simp [*, errW_none, errW_some] <;> rfl), by (with_reducible repeat (first | apply Kd.R_alloc | apply Kd.R_drewN | apply Kd.R_drew)); exact HO_6.out, by (with_reducible repeat (first | apply Kd.R_alloc | apply Kd.R_drewN | apply Kd.R_drew)); exact HO_7.out, BL⟩

/-! ### samphireref02_Mul: function 25 -/
set_option maxHeartbeats 8000000 in
set_option maxRecDepth 100000 in
theorem samphireref02_Mul.calls (k : Nat) (A0 : Option Addr) (c0 : Nat) (l0 : List Int) (A1 : Option Addr) (c1 : Nat) (l1 : List Int) (r : List Int) (w : World) (hr0 : Kd.C (Kd.int .u32) w A0 l0.length l0) (hc0 : l0.length ≤ c0) (hr1 : Kd.C (Kd.int .u32) w A1 l1.length l1) (hc1 : l1.length ≤ c1) (h : samphireref02_Mul.f k l0 l1 = some r) :
    Calls Tryd.prog 25 #[.slice A0 l0.length c0, .slice A1 l1.length c1] w fun e w' => ∃ v0_ : Value, e = .returned (v0_) ∧ Kd.R (Kd.int .u32) 34 w' w.heap.size (fun _ => True) v0_ r ∧ Below w.heap.size w w' := by
  have HR0 := Aside0.mk hr0
  have HC0 := Aside0.mk hc0
  clear hr0 hc0
  have HR1 := Aside0.mk hr1
  have HC1 := Aside0.mk hc1
  clear hr1 hc1
  have HB := Aside0.mk (Below.refl w.heap.size w)
  have H : ((samphireref02_Half.f k l0 (wrap64 (2 * (l0.length : Int)))).bind fun t406 => ((samphireref02_Half.f k l1 (wrap64 (2 * (l1.length : Int)))).bind fun t409 => (if 0 ≤ (wrap64 ((wrap64 ((wrap64 (2 * (l0.length : Int))) + (wrap64 (2 * (l1.length : Int))))) + 2)) then (if (wrap64 ((wrap64 ((wrap64 (2 * (l0.length : Int))) + (wrap64 (2 * (l1.length : Int))))) + 2) : Int).toNat ≤ 35184372088832 then (samphireref02_Mul.l0 k (wrap64 (2 * (l0.length : Int))) (wrap64 (2 * (l1.length : Int))) t406 t409 (List.replicate (wrap64 ((wrap64 ((wrap64 (2 * (l0.length : Int))) + (wrap64 (2 * (l1.length : Int))))) + 2) : Int).toNat 0) 0) else (none)) else (none)))) = some r := h
  clear h
  obtain ⟨t406, A3, H⟩ := bind_p H
  obtain ⟨t409, A4, H⟩ := bind_p H
  obtain ⟨ji5, hji5⟩ := let_j (wrap64 ((wrap64 ((wrap64 (2 * (l0.length : Int))) + (wrap64 (2 * (l1.length : Int))))) + 2))
  (first | rw [hji5] at H | simp only [hji5] at H ⊢)
  (try rw [hji5] at A3)
  (try rw [hji5] at A4)
  have hji5w : (IntKind.i64.wrap ((wrap64 ((wrap64 (2 * (l0.length : Int))) + (wrap64 (2 * (l1.length : Int))))) + 2)) = ji5 := (i64_w _).trans hji5
  obtain ⟨c6, H⟩ := ite_p H
  have c6b0 := eq_true c6
  have c6b1 : decide (0 ≤ (ji5)) = true := decide_eq_true c6
  clear c6
  obtain ⟨c7, H⟩ := ite_p H
  have c7b0 := eq_true c7
  have c7b1 : decide ((ji5 : Int).toNat ≤ 35184372088832) = true := decide_eq_true c7
  clear c7
  obtain ⟨y412, Ny412⟩ := let_p (List.replicate (ji5 : Int).toNat 0 : List Int)
  (first | rw [← Ny412.out] at H | simp only [← Ny412.out] at H)
  have H' := Aside0.mk H
  clear H
  go_enter Tryd.func25, Tryd.ntmps25
  go_wp2_with (first | (go_at_call 48; (with_reducible refine (samphireref02_Half.calls k _ _ l0 (wrap64 (2 * (l0.length : Int))) t406 _ ?side1 ?side2 A3.out).mono ?_); (case side1 => repeat (first | exact HR0.out | (with_reducible refine Kd.C_alloc ?_ _) | (with_reducible refine Kd.C_drewN ?_ _) | (with_reducible refine Kd.C_drew ?_))); (case side2 => exact HC0.out); rintro e w8 ⟨v407, rfl, ho0, hb⟩; have n0_ := Aside0.mk (Kd.R_lower ho0 (below_size BL)); have n1_ := Aside0.mk (below_step BL hb); clear HB; have HO408 := n0_; have HB := n1_; clear n0_ n1_; (try clear hb); (try clear hb2); (try clear hk); (try clear hi); (try clear ho0)) | (go_at_call 48; (with_reducible refine (samphireref02_Half.calls k _ _ l1 (wrap64 (2 * (l1.length : Int))) t409 _ ?side1 ?side2 A4.out).mono ?_); (case side1 => exact CB HR1); (case side2 => exact HC1.out); rintro e w9 ⟨v410, rfl, ho0, hb⟩; have n0_ := Aside0.mk (Kd.R_elder' (RL HO408) (Kd.R_base ho0) hb); have n1_ := Aside0.mk (Kd.R_lower (Kd.R_new' ho0 (Kd.R_lt (RL HO408))) (below_size BL)); have n2_ := Aside0.mk (below_step BL hb); clear HO408; clear HB; have HO408 := n0_; have HO411 := n1_; have HB := n2_; clear n0_ n1_ n2_; (try clear hb); (try clear hb2); (try clear hk); (try clear hi); (try clear ho0)) | ((with_reducible refine gate_dst (N := 30) rfl ?_); refine Kd.R_make (Kd.int .u64) _ 24 rfl (N := 30) rfl 55 _ _ rfl ji5 rfl rfl Tryd.underlying55 (.int .u64 0) 8 info24 rfl (by decide) (by omega) 0 (ok := fun _ => True) (okp := fun _ => True) rfl (fun _ hk => hk) trivial (DA) (Nat.le_trans (Nat.mul_le_mul_right _ (DA : ji5.toNat ≤ 35184372088832)) (by omega)) (Below.refl _ _) (Nat.le_refl _) ?_; intro v413 w10 ho11 hb hg_ hnew_; clear hg_ hnew_; (first | rw [← Ny412.out] at ho11 | (simp only [Int.reduceToNat] at ho11; rw [← Ny412.out] at ho11)); have n0_ := Aside0.mk (Kd.R_elder' (RL HO408) (Kd.R_base ho11) hb); have n1_ := Aside0.mk (Kd.R_elder' (RL HO411) (Kd.R_base ho11) hb); have n2_ := Aside0.mk (Kd.R_lower (Kd.R_new' (Kd.R_new' ho11 (Kd.R_lt (RL HO408))) (Kd.R_lt (RL HO411))) (below_size BL)); have n3_ := Aside0.mk (below_step BL hb); clear HO408; clear HO411; clear HB; have HO408 := n0_; have HO411 := n1_; have HO414 := n2_; have HB := n3_; clear n0_ n1_ n2_ n3_; clear hb ho11))
  repeat (go_quiet (first | (go_at_call 48; (with_reducible refine (samphireref02_Half.calls k _ _ l0 (wrap64 (2 * (l0.length : Int))) t406 _ ?side1 ?side2 A3.out).mono ?_); (case side1 => repeat (first | exact HR0.out | (with_reducible refine Kd.C_alloc ?_ _) | (with_reducible refine Kd.C_drewN ?_ _) | (with_reducible refine Kd.C_drew ?_))); (case side2 => exact HC0.out); rintro e w8 ⟨v407, rfl, ho0, hb⟩; have n0_ := Aside0.mk (Kd.R_lower ho0 (below_size BL)); have n1_ := Aside0.mk (below_step BL hb); clear HB; have HO408 := n0_; have HB := n1_; clear n0_ n1_; (try clear hb); (try clear hb2); (try clear hk); (try clear hi); (try clear ho0)) | (go_at_call 48; (with_reducible refine (samphireref02_Half.calls k _ _ l1 (wrap64 (2 * (l1.length : Int))) t409 _ ?side1 ?side2 A4.out).mono ?_); (case side1 => exact CB HR1); (case side2 => exact HC1.out); rintro e w9 ⟨v410, rfl, ho0, hb⟩; have n0_ := Aside0.mk (Kd.R_elder' (RL HO408) (Kd.R_base ho0) hb); have n1_ := Aside0.mk (Kd.R_lower (Kd.R_new' ho0 (Kd.R_lt (RL HO408))) (below_size BL)); have n2_ := Aside0.mk (below_step BL hb); clear HO408; clear HB; have HO408 := n0_; have HO411 := n1_; have HB := n2_; clear n0_ n1_ n2_; (try clear hb); (try clear hb2); (try clear hk); (try clear hi); (try clear ho0)) | ((with_reducible refine gate_dst (N := 30) rfl ?_); refine Kd.R_make (Kd.int .u64) _ 24 rfl (N := 30) rfl 55 _ _ rfl ji5 rfl rfl Tryd.underlying55 (.int .u64 0) 8 info24 rfl (by decide) (by omega) 0 (ok := fun _ => True) (okp := fun _ => True) rfl (fun _ hk => hk) trivial (DA) (Nat.le_trans (Nat.mul_le_mul_right _ (DA : ji5.toNat ≤ 35184372088832)) (by omega)) (Below.refl _ _) (Nat.le_refl _) ?_; intro v413 w10 ho11 hb hg_ hnew_; clear hg_ hnew_; (first | rw [← Ny412.out] at ho11 | (simp only [Int.reduceToNat] at ho11; rw [← Ny412.out] at ho11)); have n0_ := Aside0.mk (Kd.R_elder' (RL HO408) (Kd.R_base ho11) hb); have n1_ := Aside0.mk (Kd.R_elder' (RL HO411) (Kd.R_base ho11) hb); have n2_ := Aside0.mk (Kd.R_lower (Kd.R_new' (Kd.R_new' ho11 (Kd.R_lt (RL HO408))) (Kd.R_lt (RL HO411))) (below_size BL)); have n3_ := Aside0.mk (below_step BL hb); clear HO408; clear HO411; clear HB; have HO408 := n0_; have HO411 := n1_; have HO414 := n2_; have HB := n3_; clear n0_ n1_ n2_ n3_; clear hb ho11)); try go_wp2_with (first | (go_at_call 48; (with_reducible refine (samphireref02_Half.calls k _ _ l0 (wrap64 (2 * (l0.length : Int))) t406 _ ?side1 ?side2 A3.out).mono ?_); (case side1 => repeat (first | exact HR0.out | (with_reducible refine Kd.C_alloc ?_ _) | (with_reducible refine Kd.C_drewN ?_ _) | (with_reducible refine Kd.C_drew ?_))); (case side2 => exact HC0.out); rintro e w8 ⟨v407, rfl, ho0, hb⟩; have n0_ := Aside0.mk (Kd.R_lower ho0 (below_size BL)); have n1_ := Aside0.mk (below_step BL hb); clear HB; have HO408 := n0_; have HB := n1_; clear n0_ n1_; (try clear hb); (try clear hb2); (try clear hk); (try clear hi); (try clear ho0)) | (go_at_call 48; (with_reducible refine (samphireref02_Half.calls k _ _ l1 (wrap64 (2 * (l1.length : Int))) t409 _ ?side1 ?side2 A4.out).mono ?_); (case side1 => exact CB HR1); (case side2 => exact HC1.out); rintro e w9 ⟨v410, rfl, ho0, hb⟩; have n0_ := Aside0.mk (Kd.R_elder' (RL HO408) (Kd.R_base ho0) hb); have n1_ := Aside0.mk (Kd.R_lower (Kd.R_new' ho0 (Kd.R_lt (RL HO408))) (below_size BL)); have n2_ := Aside0.mk (below_step BL hb); clear HO408; clear HB; have HO408 := n0_; have HO411 := n1_; have HB := n2_; clear n0_ n1_ n2_; (try clear hb); (try clear hb2); (try clear hk); (try clear hi); (try clear ho0)) | ((with_reducible refine gate_dst (N := 30) rfl ?_); refine Kd.R_make (Kd.int .u64) _ 24 rfl (N := 30) rfl 55 _ _ rfl ji5 rfl rfl Tryd.underlying55 (.int .u64 0) 8 info24 rfl (by decide) (by omega) 0 (ok := fun _ => True) (okp := fun _ => True) rfl (fun _ hk => hk) trivial (DA) (Nat.le_trans (Nat.mul_le_mul_right _ (DA : ji5.toNat ≤ 35184372088832)) (by omega)) (Below.refl _ _) (Nat.le_refl _) ?_; intro v413 w10 ho11 hb hg_ hnew_; clear hg_ hnew_; (first | rw [← Ny412.out] at ho11 | (simp only [Int.reduceToNat] at ho11; rw [← Ny412.out] at ho11)); have n0_ := Aside0.mk (Kd.R_elder' (RL HO408) (Kd.R_base ho11) hb); have n1_ := Aside0.mk (Kd.R_elder' (RL HO411) (Kd.R_base ho11) hb); have n2_ := Aside0.mk (Kd.R_lower (Kd.R_new' (Kd.R_new' ho11 (Kd.R_lt (RL HO408))) (Kd.R_lt (RL HO411))) (below_size BL)); have n3_ := Aside0.mk (below_step BL hb); clear HO408; clear HO411; clear HB; have HO408 := n0_; have HO411 := n1_; have HO414 := n2_; have HB := n3_; clear n0_ n1_ n2_ n3_; clear hb ho11)))
  go_loopg [10] k (fun kq v10 w' => ∃ (x9_1 : List Int) (x10_1 : Int), v10 = .int .i64 x10_1 ∧ Aside0 (samphireref02_Mul.l0 kq (wrap64 (2 * (l0.length : Int))) (wrap64 (2 * (l1.length : Int))) t406 t409 x9_1 x10_1 = some r) ∧ Aside0 (kq ≤ k) ∧ Aside0 (Kd.R (Kd.int .u64) 24 w' w.heap.size (fun k_ => some k_ ≠ (v410 : Value).ownBlock ∧ some k_ ≠ (v413 : Value).ownBlock) v407 t406) ∧ Aside0 (Kd.R (Kd.int .u64) 24 w' w.heap.size (fun k_ => some k_ ≠ (v407 : Value).ownBlock ∧ some k_ ≠ (v413 : Value).ownBlock) v410 t409) ∧ Aside0 (Kd.R (Kd.int .u64) 24 w' w.heap.size (fun k_ => some k_ ≠ (v407 : Value).ownBlock ∧ some k_ ≠ (v410 : Value).ownBlock) v413 x9_1) ∧ Aside0 (Below w.heap.size w w'))
  case atStart => exact ⟨(y412), (0), (by first | rfl | (simp; done) | (simp [*]; done) | (simp; exact isEmpty_bne _)), H', ⟨Nat.le_refl _⟩, ⟨by (with_reducible repeat (first | apply Kd.R_alloc | apply Kd.R_drewN | apply Kd.R_drew)); exact Kd.R_mono HO408.out (fun _ hk => ⟨hk.1.2, hk.2⟩)⟩, ⟨by (with_reducible repeat (first | apply Kd.R_alloc | apply Kd.R_drewN | apply Kd.R_drew)); exact Kd.R_mono HO411.out (fun _ hk => ⟨hk.1.2, hk.2⟩)⟩, ⟨by (with_reducible repeat (first | apply Kd.R_alloc | apply Kd.R_drewN | apply Kd.R_drew)); exact Kd.R_mono HO414.out (fun _ hk => ⟨hk.1.2, hk.2⟩)⟩, ⟨BL⟩⟩
  case round =>
    clear H'
    try clear c1
    try clear c2
    try clear p2
    try clear c6
    try clear c6b0
    try clear c6b1
    try clear p6
    try clear c7
    try clear c7b0
    try clear c7b1
    obtain ⟨x9_1, x10_1, rfl, HA, HK1, HO_7, HO_8, HO_9, HB⟩ := hrel
    cases gk with
    | zero => exact absurd HA.out (by simp [samphireref02_Mul.l0])
    | succ k1 =>
      have H := HA.out
      clear HA
      simp only [samphireref02_Mul.l0] at H
      by_cases c12 : x10_1 < (wrap64 (2 * (l0.length : Int)))
      · rw [if_pos c12] at H
        have c12b0 : decide (x10_1 < (wrap64 (2 * (l0.length : Int)))) = true := decide_eq_true c12
        clear c12
        have H' := Aside0.mk H
        clear H
        go_wp2
        repeat (go_quiet (fail); try go_wp2)
        go_loopg [11, 12] k1 (fun kq v11 v12 w' => ∃ (x9_2 : List Int) (x11_2 : Int) (x12_2 : Int), v11 = .int .u64 x11_2 ∧ v12 = .int .i64 x12_2 ∧ Aside0 (samphireref02_Mul.l1 kq (wrap64 (2 * (l0.length : Int))) (wrap64 (2 * (l1.length : Int))) t406 t409 x9_2 x10_1 x11_2 x12_2 = some r) ∧ Aside0 (kq ≤ k1) ∧ Aside0 (Kd.R (Kd.int .u64) 24 w' w.heap.size (fun k_ => some k_ ≠ (v410 : Value).ownBlock ∧ some k_ ≠ (v413 : Value).ownBlock) v407 t406) ∧ Aside0 (Kd.R (Kd.int .u64) 24 w' w.heap.size (fun k_ => some k_ ≠ (v407 : Value).ownBlock ∧ some k_ ≠ (v413 : Value).ownBlock) v410 t409) ∧ Aside0 (Kd.R (Kd.int .u64) 24 w' w.heap.size (fun k_ => some k_ ≠ (v407 : Value).ownBlock ∧ some k_ ≠ (v410 : Value).ownBlock) v413 x9_2) ∧ Aside0 (Below w.heap.size w w'))
        case atStart => exact ⟨(x9_1), (0), (0), (by first | rfl | (simp; done) | (simp [*]; done) | (simp; exact isEmpty_bne _)), (by first | rfl | (simp; done) | (simp [*]; done) | (simp; exact isEmpty_bne _)), H', ⟨Nat.le_refl _⟩, ⟨by (with_reducible repeat (first | apply Kd.R_alloc | apply Kd.R_drewN | apply Kd.R_drew)); exact HO_7.out⟩, ⟨by (with_reducible repeat (first | apply Kd.R_alloc | apply Kd.R_drewN | apply Kd.R_drew)); exact HO_8.out⟩, ⟨by (with_reducible repeat (first | apply Kd.R_alloc | apply Kd.R_drewN | apply Kd.R_drew)); exact HO_9.out⟩, ⟨BL⟩⟩
        case round =>
          clear H'
          try clear c1
          try clear c2
          try clear p2
          try clear c6
          try clear c6b0
          try clear c6b1
          try clear p6
          try clear c7
          try clear c7b0
          try clear c7b1
          try clear c12
          try clear c12b0
          try clear p2
          try clear p6
          obtain ⟨x9_2, x11_2, x12_2, rfl, rfl, HA, HK2, HO_7, HO_8, HO_9, HB⟩ := hrel
          cases gk with
          | zero => exact absurd HA.out (by simp [samphireref02_Mul.l1])
          | succ k2 =>
            have H := HA.out
            clear HA
            simp only [samphireref02_Mul.l1] at H
            by_cases c13 : x12_2 < (wrap64 (2 * (l1.length : Int)))
            · rw [if_pos c13] at H
              have c13b0 : decide (x12_2 < (wrap64 (2 * (l1.length : Int)))) = true := decide_eq_true c13
              clear c13
              obtain ⟨ji14, hji14⟩ := let_j (wrap64 (x10_1 + x12_2))
              (first | rw [hji14] at H | simp only [hji14] at H ⊢)
              have hji14w : (IntKind.i64.wrap (x10_1 + x12_2)) = ji14 := (i64_w _).trans hji14
              obtain ⟨c15, H⟩ := ite_p H
              have c15b0 : decide (0 ≤ (ji14)) = true := decide_eq_true c15
              clear c15
              obtain ⟨c16, H⟩ := ite_p H
              have c16b0 : decide ((ji14) < (x9_2.length : Int)) = true := decide_eq_true c16
              clear c16
              obtain ⟨c17, H⟩ := ite_p H
              have c17b0 : decide (0 ≤ x10_1) = true := decide_eq_true c17
              clear c17
              obtain ⟨c18, H⟩ := ite_p H
              have c18b0 : decide (x10_1 < (t406.length : Int)) = true := decide_eq_true c18
              clear c18
              obtain ⟨c19, H⟩ := ite_p H
              have c19b0 : decide (0 ≤ x12_2) = true := decide_eq_true c19
              clear c19
              obtain ⟨c20, H⟩ := ite_p H
              have c20b0 : decide (x12_2 < (t409.length : Int)) = true := decide_eq_true c20
              clear c20
              obtain ⟨y421, Ny421⟩ := let_p (x9_2.set ((ji14) : Int).toNat (Int.tmod (IntKind.u64.wrap ((IntKind.u64.wrap ((rd x9_2 (ji14)) + (IntKind.u64.wrap ((rd t406 x10_1) * (rd t409 x12_2))))) + x11_2)) 65536) : List Int)
              (first | rw [← Ny421.out] at H | simp only [← Ny421.out] at H)
              have H' := Aside0.mk H
              clear H
              obtain ⟨Ao22, co22, eo22⟩ := Kd.R_slice HO_9.out
              subst eo22
              have p418 : 0 ≤ ((ji14) : Int) := DA
              have q418 : (ji14) < (x9_2.length : Int) := DA
              obtain ⟨ad418, e418, hx418_0⟩ := Kd.at_int (Kd.R_reads' HO_9.out).2.2 (ji14) p418 q418
              cases e418
              replace p418 := eq_true p418
              replace q418 := eq_true q418
              obtain ⟨Ao23, co23, eo23⟩ := Kd.R_slice HO_7.out
              subst eo23
              have p419 : 0 ≤ (x10_1 : Int) := DA
              have q419 : x10_1 < (t406.length : Int) := DA
              obtain ⟨ad419, e419, hx419_0⟩ := Kd.at_int (Kd.R_reads' HO_7.out).2.2 x10_1 p419 q419
              cases e419
              replace p419 := eq_true p419
              replace q419 := eq_true q419
              obtain ⟨Ao24, co24, eo24⟩ := Kd.R_slice HO_8.out
              subst eo24
              have p420 : 0 ≤ (x12_2 : Int) := DA
              have q420 : x12_2 < (t409.length : Int) := DA
              obtain ⟨ad420, e420, hx420_0⟩ := Kd.at_int (Kd.R_reads' HO_8.out).2.2 x12_2 p420 q420
              cases e420
              replace p420 := eq_true p420
              replace q420 := eq_true q420
              have p21 : 0 ≤ ((ji14) : Int) := DA
              have q21 : ((ji14) : Int) < ((x9_2.length : Int) : Int) := DA
              obtain ⟨go21, co21, eo21, gb21, gl21, cl21, HG21⟩ := Kd.R_form HO_9.out (by omega)
              (first | cases eo21 | (injection eo21 with ea_ en_ ec_; (first | subst ea_ | (injection ea_ with ea_; subst ea_)); subst ec_; clear en_))
              have GB21 := Aside0.mk gb21
              have GG21 := Aside0.mk HG21
              clear gb21 gl21 HG21
              (first | simp only [add_plain] at hx418_0 | skip)
              obtain ⟨hx21_0, hf21_0⟩ := Kd.R_celln 0 HO_9.out ((ji14) : Int) p21 q21
              replace p21 := eq_true p21
              replace q21 := eq_true q21
              have HP25 := Kd.R_putg HO_9.out ((ji14) : Int) (Int.tmod (IntKind.u64.wrap ((IntKind.u64.wrap ((rd x9_2 (ji14)) + (IntKind.u64.wrap ((rd t406 x10_1) * (rd t409 x12_2))))) + x11_2)) 65536)
              go_wp2_with (first | ((with_reducible refine gate_store (t := 24) (p := 65) rfl ?_); (try (rw [drewN_self wr]; generalize hq_ : World.drewN wr _ = wr; have n0_ := Aside0.mk (Kd.R_at hq_ HO_7.out); have n1_ := Aside0.mk (Kd.R_at hq_ HO_8.out); have n2_ := Aside0.mk (Kd.R_at hq_ HO_9.out); have n3_ := Aside0.mk (below_at hq_ HB.out); clear hq_ HO_7 HO_8 HO_9 HB; have HO_7 := n0_; have HO_8 := n1_; have HO_9 := n2_; have HB := n3_; clear n0_ n1_ n2_ n3_; (try (obtain ⟨hx21_0, hf21_0⟩ := Kd.R_celln 0 HO_9.out ((ji14) : Int) (of_eq_true p21) (of_eq_true q21))); (try (have HP25 := Kd.R_putg HO_9.out ((ji14) : Int) (Int.tmod (IntKind.u64.wrap ((IntKind.u64.wrap ((rd x9_2 (ji14)) + (IntKind.u64.wrap ((rd t406 x10_1) * (rd t409 x12_2))))) + x11_2)) 65536))))); refine store_event (t := 24) (p := 65) (v := ?vo_w26) (w1 := (wr.setCell ⟨go21, ((ji14) : Int).toNat, none⟩ (.int .u64 (Int.tmod (IntKind.u64.wrap ((IntKind.u64.wrap ((rd x9_2 (ji14)) + (IntKind.u64.wrap ((rd t406 x10_1) * (rd t409 x12_2))))) + x11_2)) 65536)))) ?hg ?ho ?hn ?hr ?_; (case ho => rfl); (case hg => rfl); (case hn => rfl); (case hr => first | (go_simp; done) | (go_simp; rfl)); intro w26 hw; have hg : wr.grownBy w26 (some go21) := (by rw [hw]; exact HP25.2); have hp_ : Kd.R (Kd.int .u64) 24 w26 w.heap.size (fun k_ => some k_ ≠ (.slice (some ad419) t406.length co23 : Value).ownBlock ∧ some k_ ≠ (.slice (some ad420) t409.length co24 : Value).ownBlock) (.slice (some ⟨go21, 0, none⟩) x9_2.length co22) y421 := (by rw [hw, Ny421.out]; exact HP25.1); clear HP25; have n0_ := Aside0.mk (Kd.R_after (v := (.slice (some ⟨go21, 0, none⟩) x9_2.length co22)) (v1 := (.slice (some ⟨go21, 0, none⟩) x9_2.length co22)) (ok := (fun k_ => some k_ ≠ (.slice (some ad420) t409.length co24 : Value).ownBlock)) (RL HO_7) hg (.inl rfl)); have n1_ := Aside0.mk (Kd.R_after (v := (.slice (some ⟨go21, 0, none⟩) x9_2.length co22)) (v1 := (.slice (some ⟨go21, 0, none⟩) x9_2.length co22)) (ok := (fun k_ => some k_ ≠ (.slice (some ad419) t406.length co23 : Value).ownBlock)) (RL HO_8) hg (.inl rfl)); have n2_ := Aside0.mk (hp_); have n3_ := Aside0.mk ((by rw [hw]; exact below_set (HB.out) GB21.out : Below w.heap.size w w26)); clear HO_7; clear HO_8; clear HO_9; clear HB; have HO_7 := n0_; have HO_8 := n1_; have HO_9 := n2_; have HB := n3_; clear n0_ n1_ n2_ n3_; clear hg hw hp_))
              repeat (go_quiet (first | ((with_reducible refine gate_store (t := 24) (p := 65) rfl ?_); (try (rw [drewN_self wr]; generalize hq_ : World.drewN wr _ = wr; have n0_ := Aside0.mk (Kd.R_at hq_ HO_7.out); have n1_ := Aside0.mk (Kd.R_at hq_ HO_8.out); have n2_ := Aside0.mk (Kd.R_at hq_ HO_9.out); have n3_ := Aside0.mk (below_at hq_ HB.out); clear hq_ HO_7 HO_8 HO_9 HB; have HO_7 := n0_; have HO_8 := n1_; have HO_9 := n2_; have HB := n3_; clear n0_ n1_ n2_ n3_; (try (obtain ⟨hx21_0, hf21_0⟩ := Kd.R_celln 0 HO_9.out ((ji14) : Int) (of_eq_true p21) (of_eq_true q21))); (try (have HP25 := Kd.R_putg HO_9.out ((ji14) : Int) (Int.tmod (IntKind.u64.wrap ((IntKind.u64.wrap ((rd x9_2 (ji14)) + (IntKind.u64.wrap ((rd t406 x10_1) * (rd t409 x12_2))))) + x11_2)) 65536))))); refine store_event (t := 24) (p := 65) (v := ?vo_w26) (w1 := (wr.setCell ⟨go21, ((ji14) : Int).toNat, none⟩ (.int .u64 (Int.tmod (IntKind.u64.wrap ((IntKind.u64.wrap ((rd x9_2 (ji14)) + (IntKind.u64.wrap ((rd t406 x10_1) * (rd t409 x12_2))))) + x11_2)) 65536)))) ?hg ?ho ?hn ?hr ?_; (case ho => rfl); (case hg => rfl); (case hn => rfl); (case hr => first | (go_simp; done) | (go_simp; rfl)); intro w26 hw; have hg : wr.grownBy w26 (some go21) := (by rw [hw]; exact HP25.2); have hp_ : Kd.R (Kd.int .u64) 24 w26 w.heap.size (fun k_ => some k_ ≠ (.slice (some ad419) t406.length co23 : Value).ownBlock ∧ some k_ ≠ (.slice (some ad420) t409.length co24 : Value).ownBlock) (.slice (some ⟨go21, 0, none⟩) x9_2.length co22) y421 := (by rw [hw, Ny421.out]; exact HP25.1); clear HP25; have n0_ := Aside0.mk (Kd.R_after (v := (.slice (some ⟨go21, 0, none⟩) x9_2.length co22)) (v1 := (.slice (some ⟨go21, 0, none⟩) x9_2.length co22)) (ok := (fun k_ => some k_ ≠ (.slice (some ad420) t409.length co24 : Value).ownBlock)) (RL HO_7) hg (.inl rfl)); have n1_ := Aside0.mk (Kd.R_after (v := (.slice (some ⟨go21, 0, none⟩) x9_2.length co22)) (v1 := (.slice (some ⟨go21, 0, none⟩) x9_2.length co22)) (ok := (fun k_ => some k_ ≠ (.slice (some ad419) t406.length co23 : Value).ownBlock)) (RL HO_8) hg (.inl rfl)); have n2_ := Aside0.mk (hp_); have n3_ := Aside0.mk ((by rw [hw]; exact below_set (HB.out) GB21.out : Below w.heap.size w w26)); clear HO_7; clear HO_8; clear HO_9; clear HB; have HO_7 := n0_; have HO_8 := n1_; have HO_9 := n2_; have HB := n3_; clear n0_ n1_ n2_ n3_; clear hg hw hp_)); try go_wp2_with (first | ((with_reducible refine gate_store (t := 24) (p := 65) rfl ?_); (try (rw [drewN_self wr]; generalize hq_ : World.drewN wr _ = wr; have n0_ := Aside0.mk (Kd.R_at hq_ HO_7.out); have n1_ := Aside0.mk (Kd.R_at hq_ HO_8.out); have n2_ := Aside0.mk (Kd.R_at hq_ HO_9.out); have n3_ := Aside0.mk (below_at hq_ HB.out); clear hq_ HO_7 HO_8 HO_9 HB; have HO_7 := n0_; have HO_8 := n1_; have HO_9 := n2_; have HB := n3_; clear n0_ n1_ n2_ n3_; (try (obtain ⟨hx21_0, hf21_0⟩ := Kd.R_celln 0 HO_9.out ((ji14) : Int) (of_eq_true p21) (of_eq_true q21))); (try (have HP25 := Kd.R_putg HO_9.out ((ji14) : Int) (Int.tmod (IntKind.u64.wrap ((IntKind.u64.wrap ((rd x9_2 (ji14)) + (IntKind.u64.wrap ((rd t406 x10_1) * (rd t409 x12_2))))) + x11_2)) 65536))))); refine store_event (t := 24) (p := 65) (v := ?vo_w26) (w1 := (wr.setCell ⟨go21, ((ji14) : Int).toNat, none⟩ (.int .u64 (Int.tmod (IntKind.u64.wrap ((IntKind.u64.wrap ((rd x9_2 (ji14)) + (IntKind.u64.wrap ((rd t406 x10_1) * (rd t409 x12_2))))) + x11_2)) 65536)))) ?hg ?ho ?hn ?hr ?_; (case ho => rfl); (case hg => rfl); (case hn => rfl); (case hr => first | (go_simp; done) | (go_simp; rfl)); intro w26 hw; have hg : wr.grownBy w26 (some go21) := (by rw [hw]; exact HP25.2); have hp_ : Kd.R (Kd.int .u64) 24 w26 w.heap.size (fun k_ => some k_ ≠ (.slice (some ad419) t406.length co23 : Value).ownBlock ∧ some k_ ≠ (.slice (some ad420) t409.length co24 : Value).ownBlock) (.slice (some ⟨go21, 0, none⟩) x9_2.length co22) y421 := (by rw [hw, Ny421.out]; exact HP25.1); clear HP25; have n0_ := Aside0.mk (Kd.R_after (v := (.slice (some ⟨go21, 0, none⟩) x9_2.length co22)) (v1 := (.slice (some ⟨go21, 0, none⟩) x9_2.length co22)) (ok := (fun k_ => some k_ ≠ (.slice (some ad420) t409.length co24 : Value).ownBlock)) (RL HO_7) hg (.inl rfl)); have n1_ := Aside0.mk (Kd.R_after (v := (.slice (some ⟨go21, 0, none⟩) x9_2.length co22)) (v1 := (.slice (some ⟨go21, 0, none⟩) x9_2.length co22)) (ok := (fun k_ => some k_ ≠ (.slice (some ad419) t406.length co23 : Value).ownBlock)) (RL HO_8) hg (.inl rfl)); have n2_ := Aside0.mk (hp_); have n3_ := Aside0.mk ((by rw [hw]; exact below_set (HB.out) GB21.out : Below w.heap.size w w26)); clear HO_7; clear HO_8; clear HO_9; clear HB; have HO_7 := n0_; have HO_8 := n1_; have HO_9 := n2_; have HB := n3_; clear n0_ n1_ n2_ n3_; clear hg hw hp_)))
              go_roundg k2
              case measure => have := HK1.out; have := HK2.out; omega
              case rel => exact ⟨(y421), (IntKind.u64.wrap (Int.tdiv (IntKind.u64.wrap ((IntKind.u64.wrap ((rd x9_2 (ji14)) + (IntKind.u64.wrap ((rd t406 x10_1) * (rd t409 x12_2))))) + x11_2)) 65536)), (wrap64 (x12_2 + 1)), (by first | rfl | (simp; done) | (simp only [← hji14] <;> (first | rfl | simp)) | (simp [*]; done)), (by first | rfl | (simp; done) | (simp [*]; done) | (simp; exact isEmpty_bne _)), H', ⟨by have := HK1.out; have := HK2.out; omega⟩, ⟨by (with_reducible repeat (first | apply Kd.R_alloc | apply Kd.R_drewN | apply Kd.R_drew)); exact HO_7.out⟩, ⟨by (with_reducible repeat (first | apply Kd.R_alloc | apply Kd.R_drewN | apply Kd.R_drew)); exact HO_8.out⟩, ⟨by (with_reducible repeat (first | apply Kd.R_alloc | apply Kd.R_drewN | apply Kd.R_drew)); exact HO_9.out⟩, ⟨BL⟩⟩
            · rw [if_neg c13] at H
              have c13b0 : decide (x12_2 < (wrap64 (2 * (l1.length : Int)))) = false := decide_eq_false c13
              clear c13
              obtain ⟨ji27, hji27⟩ := let_j (wrap64 (x10_1 + (wrap64 (2 * (l1.length : Int)))))
              (first | rw [hji27] at H | simp only [hji27] at H ⊢)
              have hji27w : (IntKind.i64.wrap (x10_1 + (wrap64 (2 * (l1.length : Int))))) = ji27 := (i64_w _).trans hji27
              obtain ⟨c28, H⟩ := ite_p H
              have c28b0 : decide (0 ≤ (ji27)) = true := decide_eq_true c28
              clear c28
              obtain ⟨c29, H⟩ := ite_p H
              have c29b0 : decide ((ji27) < (x9_2.length : Int)) = true := decide_eq_true c29
              clear c29
              obtain ⟨y423, Ny423⟩ := let_p (x9_2.set ((ji27) : Int).toNat (IntKind.u64.wrap ((rd x9_2 (ji27)) + x11_2)) : List Int)
              (first | rw [← Ny423.out] at H | simp only [← Ny423.out] at H)
              have H' := Aside0.mk H
              clear H
              obtain ⟨Ao31, co31, eo31⟩ := Kd.R_slice HO_9.out
              subst eo31
              have p422 : 0 ≤ ((ji27) : Int) := DA
              have q422 : (ji27) < (x9_2.length : Int) := DA
              obtain ⟨ad422, e422, hx422_0⟩ := Kd.at_int (Kd.R_reads' HO_9.out).2.2 (ji27) p422 q422
              cases e422
              replace p422 := eq_true p422
              replace q422 := eq_true q422
              have p30 : 0 ≤ ((ji27) : Int) := DA
              have q30 : ((ji27) : Int) < ((x9_2.length : Int) : Int) := DA
              obtain ⟨go30, co30, eo30, gb30, gl30, cl30, HG30⟩ := Kd.R_form HO_9.out (by omega)
              (first | cases eo30 | (injection eo30 with ea_ en_ ec_; (first | subst ea_ | (injection ea_ with ea_; subst ea_)); subst ec_; clear en_))
              have GB30 := Aside0.mk gb30
              have GG30 := Aside0.mk HG30
              clear gb30 gl30 HG30
              (first | simp only [add_plain] at hx422_0 | skip)
              obtain ⟨hx30_0, hf30_0⟩ := Kd.R_celln 0 HO_9.out ((ji27) : Int) p30 q30
              replace p30 := eq_true p30
              replace q30 := eq_true q30
              have HP32 := Kd.R_putg HO_9.out ((ji27) : Int) (IntKind.u64.wrap ((rd x9_2 (ji27)) + x11_2))
              go_wp2_with (first | ((with_reducible refine gate_store (t := 24) (p := 76) rfl ?_); (try (rw [drewN_self wr]; generalize hq_ : World.drewN wr _ = wr; have n0_ := Aside0.mk (Kd.R_at hq_ HO_7.out); have n1_ := Aside0.mk (Kd.R_at hq_ HO_8.out); have n2_ := Aside0.mk (Kd.R_at hq_ HO_9.out); have n3_ := Aside0.mk (below_at hq_ HB.out); clear hq_ HO_7 HO_8 HO_9 HB; have HO_7 := n0_; have HO_8 := n1_; have HO_9 := n2_; have HB := n3_; clear n0_ n1_ n2_ n3_; (try (obtain ⟨hx30_0, hf30_0⟩ := Kd.R_celln 0 HO_9.out ((ji27) : Int) (of_eq_true p30) (of_eq_true q30))); (try (have HP32 := Kd.R_putg HO_9.out ((ji27) : Int) (IntKind.u64.wrap ((rd x9_2 (ji27)) + x11_2)))))); refine store_event (t := 24) (p := 76) (v := ?vo_w33) (w1 := (wr.setCell ⟨go30, ((ji27) : Int).toNat, none⟩ (.int .u64 (IntKind.u64.wrap ((rd x9_2 (ji27)) + x11_2))))) ?hg ?ho ?hn ?hr ?_; (case ho => rfl); (case hg => rfl); (case hn => rfl); (case hr => first | (go_simp; done) | (go_simp; rfl)); intro w33 hw; have hg : wr.grownBy w33 (some go30) := (by rw [hw]; exact HP32.2); have hp_ : Kd.R (Kd.int .u64) 24 w33 w.heap.size (fun k_ => some k_ ≠ (v407 : Value).ownBlock ∧ some k_ ≠ (v410 : Value).ownBlock) (.slice (some ⟨go30, 0, none⟩) x9_2.length co31) y423 := (by rw [hw, Ny423.out]; exact HP32.1); clear HP32; have n0_ := Aside0.mk (Kd.R_after (v := (.slice (some ⟨go30, 0, none⟩) x9_2.length co31)) (v1 := (.slice (some ⟨go30, 0, none⟩) x9_2.length co31)) (ok := (fun k_ => some k_ ≠ (v410 : Value).ownBlock)) (RL HO_7) hg (.inl rfl)); have n1_ := Aside0.mk (Kd.R_after (v := (.slice (some ⟨go30, 0, none⟩) x9_2.length co31)) (v1 := (.slice (some ⟨go30, 0, none⟩) x9_2.length co31)) (ok := (fun k_ => some k_ ≠ (v407 : Value).ownBlock)) (RL HO_8) hg (.inl rfl)); have n2_ := Aside0.mk (hp_); have n3_ := Aside0.mk ((by rw [hw]; exact below_set (HB.out) GB30.out : Below w.heap.size w w33)); clear HO_7; clear HO_8; clear HO_9; clear HB; have HO_7 := n0_; have HO_8 := n1_; have HO_9 := n2_; have HB := n3_; clear n0_ n1_ n2_ n3_; clear hg hw hp_))
              repeat (go_quiet (first | ((with_reducible refine gate_store (t := 24) (p := 76) rfl ?_); (try (rw [drewN_self wr]; generalize hq_ : World.drewN wr _ = wr; have n0_ := Aside0.mk (Kd.R_at hq_ HO_7.out); have n1_ := Aside0.mk (Kd.R_at hq_ HO_8.out); have n2_ := Aside0.mk (Kd.R_at hq_ HO_9.out); have n3_ := Aside0.mk (below_at hq_ HB.out); clear hq_ HO_7 HO_8 HO_9 HB; have HO_7 := n0_; have HO_8 := n1_; have HO_9 := n2_; have HB := n3_; clear n0_ n1_ n2_ n3_; (try (obtain ⟨hx30_0, hf30_0⟩ := Kd.R_celln 0 HO_9.out ((ji27) : Int) (of_eq_true p30) (of_eq_true q30))); (try (have HP32 := Kd.R_putg HO_9.out ((ji27) : Int) (IntKind.u64.wrap ((rd x9_2 (ji27)) + x11_2)))))); refine store_event (t := 24) (p := 76) (v := ?vo_w33) (w1 := (wr.setCell ⟨go30, ((ji27) : Int).toNat, none⟩ (.int .u64 (IntKind.u64.wrap ((rd x9_2 (ji27)) + x11_2))))) ?hg ?ho ?hn ?hr ?_; (case ho => rfl); (case hg => rfl); (case hn => rfl); (case hr => first | (go_simp; done) | (go_simp; rfl)); intro w33 hw; have hg : wr.grownBy w33 (some go30) := (by rw [hw]; exact HP32.2); have hp_ : Kd.R (Kd.int .u64) 24 w33 w.heap.size (fun k_ => some k_ ≠ (v407 : Value).ownBlock ∧ some k_ ≠ (v410 : Value).ownBlock) (.slice (some ⟨go30, 0, none⟩) x9_2.length co31) y423 := (by rw [hw, Ny423.out]; exact HP32.1); clear HP32; have n0_ := Aside0.mk (Kd.R_after (v := (.slice (some ⟨go30, 0, none⟩) x9_2.length co31)) (v1 := (.slice (some ⟨go30, 0, none⟩) x9_2.length co31)) (ok := (fun k_ => some k_ ≠ (v410 : Value).ownBlock)) (RL HO_7) hg (.inl rfl)); have n1_ := Aside0.mk (Kd.R_after (v := (.slice (some ⟨go30, 0, none⟩) x9_2.length co31)) (v1 := (.slice (some ⟨go30, 0, none⟩) x9_2.length co31)) (ok := (fun k_ => some k_ ≠ (v407 : Value).ownBlock)) (RL HO_8) hg (.inl rfl)); have n2_ := Aside0.mk (hp_); have n3_ := Aside0.mk ((by rw [hw]; exact below_set (HB.out) GB30.out : Below w.heap.size w w33)); clear HO_7; clear HO_8; clear HO_9; clear HB; have HO_7 := n0_; have HO_8 := n1_; have HO_9 := n2_; have HB := n3_; clear n0_ n1_ n2_ n3_; clear hg hw hp_)); try go_wp2_with (first | ((with_reducible refine gate_store (t := 24) (p := 76) rfl ?_); (try (rw [drewN_self wr]; generalize hq_ : World.drewN wr _ = wr; have n0_ := Aside0.mk (Kd.R_at hq_ HO_7.out); have n1_ := Aside0.mk (Kd.R_at hq_ HO_8.out); have n2_ := Aside0.mk (Kd.R_at hq_ HO_9.out); have n3_ := Aside0.mk (below_at hq_ HB.out); clear hq_ HO_7 HO_8 HO_9 HB; have HO_7 := n0_; have HO_8 := n1_; have HO_9 := n2_; have HB := n3_; clear n0_ n1_ n2_ n3_; (try (obtain ⟨hx30_0, hf30_0⟩ := Kd.R_celln 0 HO_9.out ((ji27) : Int) (of_eq_true p30) (of_eq_true q30))); (try (have HP32 := Kd.R_putg HO_9.out ((ji27) : Int) (IntKind.u64.wrap ((rd x9_2 (ji27)) + x11_2)))))); refine store_event (t := 24) (p := 76) (v := ?vo_w33) (w1 := (wr.setCell ⟨go30, ((ji27) : Int).toNat, none⟩ (.int .u64 (IntKind.u64.wrap ((rd x9_2 (ji27)) + x11_2))))) ?hg ?ho ?hn ?hr ?_; (case ho => rfl); (case hg => rfl); (case hn => rfl); (case hr => first | (go_simp; done) | (go_simp; rfl)); intro w33 hw; have hg : wr.grownBy w33 (some go30) := (by rw [hw]; exact HP32.2); have hp_ : Kd.R (Kd.int .u64) 24 w33 w.heap.size (fun k_ => some k_ ≠ (v407 : Value).ownBlock ∧ some k_ ≠ (v410 : Value).ownBlock) (.slice (some ⟨go30, 0, none⟩) x9_2.length co31) y423 := (by rw [hw, Ny423.out]; exact HP32.1); clear HP32; have n0_ := Aside0.mk (Kd.R_after (v := (.slice (some ⟨go30, 0, none⟩) x9_2.length co31)) (v1 := (.slice (some ⟨go30, 0, none⟩) x9_2.length co31)) (ok := (fun k_ => some k_ ≠ (v410 : Value).ownBlock)) (RL HO_7) hg (.inl rfl)); have n1_ := Aside0.mk (Kd.R_after (v := (.slice (some ⟨go30, 0, none⟩) x9_2.length co31)) (v1 := (.slice (some ⟨go30, 0, none⟩) x9_2.length co31)) (ok := (fun k_ => some k_ ≠ (v407 : Value).ownBlock)) (RL HO_8) hg (.inl rfl)); have n2_ := Aside0.mk (hp_); have n3_ := Aside0.mk ((by rw [hw]; exact below_set (HB.out) GB30.out : Below w.heap.size w w33)); clear HO_7; clear HO_8; clear HO_9; clear HB; have HO_7 := n0_; have HO_8 := n1_; have HO_9 := n2_; have HB := n3_; clear n0_ n1_ n2_ n3_; clear hg hw hp_)))
              go_roundg k2
              case measure => have := HK1.out; have := HK2.out; omega
              case rel => exact ⟨(y423), (wrap64 (x10_1 + 1)), (by first | rfl | (simp; done) | (simp [*]; done) | (simp; exact isEmpty_bne _)), H', ⟨by have := HK1.out; have := HK2.out; omega⟩, ⟨by (with_reducible repeat (first | apply Kd.R_alloc | apply Kd.R_drewN | apply Kd.R_drew)); exact HO_7.out⟩, ⟨by (with_reducible repeat (first | apply Kd.R_alloc | apply Kd.R_drewN | apply Kd.R_drew)); exact HO_8.out⟩, ⟨by (with_reducible repeat (first | apply Kd.R_alloc | apply Kd.R_drewN | apply Kd.R_drew)); exact HO_9.out⟩, ⟨BL⟩⟩
      · rw [if_neg c12] at H
        have c12b0 : decide (x10_1 < (wrap64 (2 * (l0.length : Int)))) = false := decide_eq_false c12
        clear c12
        obtain ⟨t415, A34, H⟩ := bind_p H
        obtain rfl := Option.some.inj H
        obtain ⟨Ao35, co35, eo35⟩ := Kd.R_slice HO_9.out
        subst eo35
        go_wp2_with (first | (go_at_call 37; (with_reducible refine (samphireref02_Whole.calls k1 _ _ x9_1 t415 _ ?side1 ?side2 A34.out).mono ?_); (case side1 => exact RR HO_9); (case side2 => exact (Kd.R_reads' HO_9.out).2.1); rintro e w36 ⟨v416, rfl, ho0, hb⟩; have n0_ := Aside0.mk (Kd.R_below (RL HO_7) hb); have n1_ := Aside0.mk (Kd.R_below (RL HO_8) hb); have n2_ := Aside0.mk (Kd.R_below (RL HO_9) hb); have n3_ := Aside0.mk (Kd.R_lower ho0 (below_size BL)); have n4_ := Aside0.mk (below_step BL hb); clear HO_7; clear HO_8; clear HO_9; clear HB; have HO_7 := n0_; have HO_8 := n1_; have HO_9 := n2_; have HO417 := n3_; have HB := n4_; clear n0_ n1_ n2_ n3_ n4_; (try clear hb); (try clear hb2); (try clear hk); (try clear hi); (try clear ho0)))
        repeat (go_quiet (first | (go_at_call 37; (with_reducible refine (samphireref02_Whole.calls k1 _ _ x9_1 t415 _ ?side1 ?side2 A34.out).mono ?_); (case side1 => exact RR HO_9); (case side2 => exact (Kd.R_reads' HO_9.out).2.1); rintro e w36 ⟨v416, rfl, ho0, hb⟩; have n0_ := Aside0.mk (Kd.R_below (RL HO_7) hb); have n1_ := Aside0.mk (Kd.R_below (RL HO_8) hb); have n2_ := Aside0.mk (Kd.R_below (RL HO_9) hb); have n3_ := Aside0.mk (Kd.R_lower ho0 (below_size BL)); have n4_ := Aside0.mk (below_step BL hb); clear HO_7; clear HO_8; clear HO_9; clear HB; have HO_7 := n0_; have HO_8 := n1_; have HO_9 := n2_; have HO417 := n3_; have HB := n4_; clear n0_ n1_ n2_ n3_ n4_; (try clear hb); (try clear hb2); (try clear hk); (try clear hi); (try clear ho0))); try go_wp2_with (first | (go_at_call 37; (with_reducible refine (samphireref02_Whole.calls k1 _ _ x9_1 t415 _ ?side1 ?side2 A34.out).mono ?_); (case side1 => exact RR HO_9); (case side2 => exact (Kd.R_reads' HO_9.out).2.1); rintro e w36 ⟨v416, rfl, ho0, hb⟩; have n0_ := Aside0.mk (Kd.R_below (RL HO_7) hb); have n1_ := Aside0.mk (Kd.R_below (RL HO_8) hb); have n2_ := Aside0.mk (Kd.R_below (RL HO_9) hb); have n3_ := Aside0.mk (Kd.R_lower ho0 (below_size BL)); have n4_ := Aside0.mk (below_step BL hb); clear HO_7; clear HO_8; clear HO_9; clear HB; have HO_7 := n0_; have HO_8 := n1_; have HO_9 := n2_; have HO417 := n3_; have HB := n4_; clear n0_ n1_ n2_ n3_ n4_; (try clear hb); (try clear hb2); (try clear hk); (try clear hi); (try clear ho0))))
        go_ret
        exact ⟨_, by first | rfl | (simp [errW_none, errW_some] <;> rfl) | (simp only [← hji5]; first | rfl | (simp [errW_none, errW_some] <;> rfl)) | (simp [*, errW_none, errW_some] <;> rfl), by (with_reducible repeat (first | apply Kd.R_alloc | apply Kd.R_drewN | apply Kd.R_drew)); exact HO417.out, BL⟩

/-! ### samphireref02_Add: function 54 -/
set_option maxHeartbeats 8000000 in
set_option maxRecDepth 100000 in
theorem samphireref02_Add.calls (k : Nat) (A0 : Option Addr) (c0 : Nat) (l0 : List Int) (A1 : Option Addr) (c1 : Nat) (l1 : List Int) (r : List Int) (w : World) (hr0 : Kd.C (Kd.int .u32) w A0 l0.length l0) (hc0 : l0.length ≤ c0) (hr1 : Kd.C (Kd.int .u32) w A1 l1.length l1) (hc1 : l1.length ≤ c1) (h : samphireref02_Add.f k l0 l1 = some r) :
    Calls Tryd.prog 54 #[.slice A0 l0.length c0, .slice A1 l1.length c1] w fun e w' => ∃ v0_ : Value, e = .returned (v0_) ∧ Kd.R (Kd.int .u32) 34 w' w.heap.size (fun _ => True) v0_ r ∧ Below w.heap.size w w' := by
  have HR0 := Aside0.mk hr0
  have HC0 := Aside0.mk hc0
  clear hr0 hc0
  have HR1 := Aside0.mk hr1
  have HC1 := Aside0.mk hc1
  clear hr1 hc1
  have HB := Aside0.mk (Below.refl w.heap.size w)
  have H : ((samphireref02_Half.f k l0 (wrap64 ((wrap64 (2 * (mx (l0.length : Int) (l1.length : Int)))) + 2))).bind fun t424 => ((samphireref02_Half.f k l1 (wrap64 ((wrap64 (2 * (mx (l0.length : Int) (l1.length : Int)))) + 2))).bind fun t427 => (samphireref02_Add.l0 k (wrap64 ((wrap64 (2 * (mx (l0.length : Int) (l1.length : Int)))) + 2)) t424 t427 0 0))) = some r := h
  clear h
  obtain ⟨ji3, hji3⟩ := let_j (mx (l0.length : Int) (l1.length : Int))
  (first | rw [hji3] at H | simp only [hji3] at H ⊢)
  (try (have hji3l : 0 ≤ ji3 := by (rw [← hji3]; unfold mx; (repeat' split) <;> omega)))
  (try (have hji3m : 0 ≤ ji3 := by omega))
  (try (have hji3N_ : (if l0.length < l1.length then (l1.length : Int) else (l0.length : Int)) = ji3 := by (have h_ := hji3; unfold mx at h_; split at h_ <;> split <;> omega)))
  have hji3_ : (if (l0.length : Int) < (l1.length : Int) then (l1.length : Int) else (l0.length : Int)) = ji3 := hji3
  obtain ⟨t424, A4, H⟩ := bind_p H
  obtain ⟨t427, A5, H⟩ := bind_p H
  have H' := Aside0.mk H
  clear H
  go_enter Tryd.func54, Tryd.ntmps54
  go_wp2_with (first | (go_at_call 48; (with_reducible refine (samphireref02_Half.calls k _ _ l0 (wrap64 ((wrap64 (2 * (ji3))) + 2)) t424 _ ?side1 ?side2 A4.out).mono ?_); (case side1 => repeat (first | exact HR0.out | (with_reducible refine Kd.C_alloc ?_ _) | (with_reducible refine Kd.C_drewN ?_ _) | (with_reducible refine Kd.C_drew ?_))); (case side2 => exact HC0.out); rintro e w6 ⟨v425, rfl, ho0, hb⟩; have n0_ := Aside0.mk (Kd.R_lower ho0 (below_size BL)); have n1_ := Aside0.mk (below_step BL hb); clear HB; have HO426 := n0_; have HB := n1_; clear n0_ n1_; (try clear hb); (try clear hb2); (try clear hk); (try clear hi); (try clear ho0)) | (go_at_call 48; (with_reducible refine (samphireref02_Half.calls k _ _ l1 (wrap64 ((wrap64 (2 * (ji3))) + 2)) t427 _ ?side1 ?side2 A5.out).mono ?_); (case side1 => exact CB HR1); (case side2 => exact HC1.out); rintro e w7 ⟨v428, rfl, ho0, hb⟩; have n0_ := Aside0.mk (Kd.R_elder' (RL HO426) (Kd.R_base ho0) hb); have n1_ := Aside0.mk (Kd.R_lower (Kd.R_new' ho0 (Kd.R_lt (RL HO426))) (below_size BL)); have n2_ := Aside0.mk (below_step BL hb); clear HO426; clear HB; have HO426 := n0_; have HO429 := n1_; have HB := n2_; clear n0_ n1_ n2_; (try clear hb); (try clear hb2); (try clear hk); (try clear hi); (try clear ho0)))
  repeat (go_quiet (first | (go_at_call 48; (with_reducible refine (samphireref02_Half.calls k _ _ l0 (wrap64 ((wrap64 (2 * (ji3))) + 2)) t424 _ ?side1 ?side2 A4.out).mono ?_); (case side1 => repeat (first | exact HR0.out | (with_reducible refine Kd.C_alloc ?_ _) | (with_reducible refine Kd.C_drewN ?_ _) | (with_reducible refine Kd.C_drew ?_))); (case side2 => exact HC0.out); rintro e w6 ⟨v425, rfl, ho0, hb⟩; have n0_ := Aside0.mk (Kd.R_lower ho0 (below_size BL)); have n1_ := Aside0.mk (below_step BL hb); clear HB; have HO426 := n0_; have HB := n1_; clear n0_ n1_; (try clear hb); (try clear hb2); (try clear hk); (try clear hi); (try clear ho0)) | (go_at_call 48; (with_reducible refine (samphireref02_Half.calls k _ _ l1 (wrap64 ((wrap64 (2 * (ji3))) + 2)) t427 _ ?side1 ?side2 A5.out).mono ?_); (case side1 => exact CB HR1); (case side2 => exact HC1.out); rintro e w7 ⟨v428, rfl, ho0, hb⟩; have n0_ := Aside0.mk (Kd.R_elder' (RL HO426) (Kd.R_base ho0) hb); have n1_ := Aside0.mk (Kd.R_lower (Kd.R_new' ho0 (Kd.R_lt (RL HO426))) (below_size BL)); have n2_ := Aside0.mk (below_step BL hb); clear HO426; clear HB; have HO426 := n0_; have HO429 := n1_; have HB := n2_; clear n0_ n1_ n2_; (try clear hb); (try clear hb2); (try clear hk); (try clear hi); (try clear ho0))); try go_wp2_with (first | (go_at_call 48; (with_reducible refine (samphireref02_Half.calls k _ _ l0 (wrap64 ((wrap64 (2 * (ji3))) + 2)) t424 _ ?side1 ?side2 A4.out).mono ?_); (case side1 => repeat (first | exact HR0.out | (with_reducible refine Kd.C_alloc ?_ _) | (with_reducible refine Kd.C_drewN ?_ _) | (with_reducible refine Kd.C_drew ?_))); (case side2 => exact HC0.out); rintro e w6 ⟨v425, rfl, ho0, hb⟩; have n0_ := Aside0.mk (Kd.R_lower ho0 (below_size BL)); have n1_ := Aside0.mk (below_step BL hb); clear HB; have HO426 := n0_; have HB := n1_; clear n0_ n1_; (try clear hb); (try clear hb2); (try clear hk); (try clear hi); (try clear ho0)) | (go_at_call 48; (with_reducible refine (samphireref02_Half.calls k _ _ l1 (wrap64 ((wrap64 (2 * (ji3))) + 2)) t427 _ ?side1 ?side2 A5.out).mono ?_); (case side1 => exact CB HR1); (case side2 => exact HC1.out); rintro e w7 ⟨v428, rfl, ho0, hb⟩; have n0_ := Aside0.mk (Kd.R_elder' (RL HO426) (Kd.R_base ho0) hb); have n1_ := Aside0.mk (Kd.R_lower (Kd.R_new' ho0 (Kd.R_lt (RL HO426))) (below_size BL)); have n2_ := Aside0.mk (below_step BL hb); clear HO426; clear HB; have HO426 := n0_; have HO429 := n1_; have HB := n2_; clear n0_ n1_ n2_; (try clear hb); (try clear hb2); (try clear hk); (try clear hi); (try clear ho0))))
  go_loopg [8, 9] k (fun kq v8 v9 w' => ∃ (x6_1 : List Int) (x8_1 : Int) (x9_1 : Int), v8 = .int .u64 x8_1 ∧ v9 = .int .i64 x9_1 ∧ Aside0 (samphireref02_Add.l0 kq (wrap64 ((wrap64 (2 * (ji3))) + 2)) x6_1 t427 x8_1 x9_1 = some r) ∧ Aside0 (kq ≤ k) ∧ Aside0 (Kd.R (Kd.int .u64) 24 w' w.heap.size (fun k_ => some k_ ≠ (v428 : Value).ownBlock) v425 x6_1) ∧ Aside0 (Kd.R (Kd.int .u64) 24 w' w.heap.size (fun k_ => some k_ ≠ (v425 : Value).ownBlock) v428 t427) ∧ Aside0 (Below w.heap.size w w'))
  case atStart => exact ⟨(t424), (0), (0), (by first | rfl | (simp; done) | (simp [*]; done) | (simp; exact isEmpty_bne _)), (by first | rfl | (simp; done) | (simp [*]; done) | (simp; exact isEmpty_bne _)), H', ⟨Nat.le_refl _⟩, ⟨by (with_reducible repeat (first | apply Kd.R_alloc | apply Kd.R_drewN | apply Kd.R_drew)); exact Kd.R_mono HO426.out (fun _ hk => hk.2)⟩, ⟨by (with_reducible repeat (first | apply Kd.R_alloc | apply Kd.R_drewN | apply Kd.R_drew)); exact Kd.R_mono HO429.out (fun _ hk => hk.2)⟩, ⟨BL⟩⟩
  case round =>
    clear H'
    try clear c1
    try clear p2
    try clear c5
    try clear p6
    obtain ⟨x6_1, x8_1, x9_1, rfl, rfl, HA, HK1, HO_6, HO_7, HB⟩ := hrel
    cases gk with
    | zero => exact absurd HA.out (by simp [samphireref02_Add.l0])
    | succ k1 =>
      have H := HA.out
      clear HA
      simp only [samphireref02_Add.l0] at H
      by_cases c8 : x9_1 < (wrap64 ((wrap64 (2 * (ji3))) + 2))
      · rw [if_pos c8] at H
        have c8b0 : decide (x9_1 < (wrap64 ((wrap64 (2 * (ji3))) + 2))) = true := decide_eq_true c8
        clear c8
        obtain ⟨c9, H⟩ := ite_p H
        have c9b0 : decide (0 ≤ x9_1) = true := decide_eq_true c9
        clear c9
        obtain ⟨c10, H⟩ := ite_p H
        have c10b0 : decide (x9_1 < (x6_1.length : Int)) = true := decide_eq_true c10
        clear c10
        obtain ⟨c11, H⟩ := ite_p H
        have c11b0 : decide (x9_1 < (t427.length : Int)) = true := decide_eq_true c11
        clear c11
        obtain ⟨y432, Ny432⟩ := let_p (x6_1.set (x9_1 : Int).toNat (Int.tmod (IntKind.u64.wrap ((IntKind.u64.wrap ((rd x6_1 x9_1) + (rd t427 x9_1))) + x8_1)) 65536) : List Int)
        (first | rw [← Ny432.out] at H | simp only [← Ny432.out] at H)
        have H' := Aside0.mk H
        clear H
        obtain ⟨Ao13, co13, eo13⟩ := Kd.R_slice HO_6.out
        subst eo13
        have p430 : 0 ≤ (x9_1 : Int) := DA
        have q430 : x9_1 < (x6_1.length : Int) := DA
        obtain ⟨ad430, e430, hx430_0⟩ := Kd.at_int (Kd.R_reads' HO_6.out).2.2 x9_1 p430 q430
        cases e430
        replace p430 := eq_true p430
        replace q430 := eq_true q430
        obtain ⟨Ao14, co14, eo14⟩ := Kd.R_slice HO_7.out
        subst eo14
        have p431 : 0 ≤ (x9_1 : Int) := DA
        have q431 : x9_1 < (t427.length : Int) := DA
        obtain ⟨ad431, e431, hx431_0⟩ := Kd.at_int (Kd.R_reads' HO_7.out).2.2 x9_1 p431 q431
        cases e431
        replace p431 := eq_true p431
        replace q431 := eq_true q431
        have p12 : 0 ≤ (x9_1 : Int) := DA
        have q12 : (x9_1 : Int) < ((x6_1.length : Int) : Int) := DA
        obtain ⟨go12, co12, eo12, gb12, gl12, cl12, HG12⟩ := Kd.R_form HO_6.out (by omega)
        (first | cases eo12 | (injection eo12 with ea_ en_ ec_; (first | subst ea_ | (injection ea_ with ea_; subst ea_)); subst ec_; clear en_))
        have GB12 := Aside0.mk gb12
        have GG12 := Aside0.mk HG12
        clear gb12 gl12 HG12
        (first | simp only [add_plain] at hx430_0 | skip)
        obtain ⟨hx12_0, hf12_0⟩ := Kd.R_celln 0 HO_6.out (x9_1 : Int) p12 q12
        replace p12 := eq_true p12
        replace q12 := eq_true q12
        have HP15 := Kd.R_putg HO_6.out (x9_1 : Int) (Int.tmod (IntKind.u64.wrap ((IntKind.u64.wrap ((rd x6_1 x9_1) + (rd t427 x9_1))) + x8_1)) 65536)
        go_wp2_with (first | ((with_reducible refine gate_store (t := 24) (p := 44) rfl ?_); (try (rw [drewN_self wr]; generalize hq_ : World.drewN wr _ = wr; have n0_ := Aside0.mk (Kd.R_at hq_ HO_6.out); have n1_ := Aside0.mk (Kd.R_at hq_ HO_7.out); have n2_ := Aside0.mk (below_at hq_ HB.out); clear hq_ HO_6 HO_7 HB; have HO_6 := n0_; have HO_7 := n1_; have HB := n2_; clear n0_ n1_ n2_; (try (obtain ⟨hx12_0, hf12_0⟩ := Kd.R_celln 0 HO_6.out (x9_1 : Int) (of_eq_true p12) (of_eq_true q12))); (try (have HP15 := Kd.R_putg HO_6.out (x9_1 : Int) (Int.tmod (IntKind.u64.wrap ((IntKind.u64.wrap ((rd x6_1 x9_1) + (rd t427 x9_1))) + x8_1)) 65536))))); refine store_event (t := 24) (p := 44) (v := ?vo_w16) (w1 := (wr.setCell ⟨go12, (x9_1 : Int).toNat, none⟩ (.int .u64 (Int.tmod (IntKind.u64.wrap ((IntKind.u64.wrap ((rd x6_1 x9_1) + (rd t427 x9_1))) + x8_1)) 65536)))) ?hg ?ho ?hn ?hr ?_; (case ho => rfl); (case hg => rfl); (case hn => rfl); (case hr => first | (go_simp; done) | (go_simp; rfl)); intro w16 hw; have hg : wr.grownBy w16 (some go12) := (by rw [hw]; exact HP15.2); have hp_ : Kd.R (Kd.int .u64) 24 w16 w.heap.size (fun k_ => some k_ ≠ (.slice (some ad431) t427.length co14 : Value).ownBlock) (.slice (some ⟨go12, 0, none⟩) x6_1.length co13) y432 := (by rw [hw, Ny432.out]; exact HP15.1); clear HP15; have n0_ := Aside0.mk (hp_); have n1_ := Aside0.mk (Kd.R_after (v := (.slice (some ⟨go12, 0, none⟩) x6_1.length co13)) (v1 := (.slice (some ⟨go12, 0, none⟩) x6_1.length co13)) (ok := (fun _ => True)) (by (with_reducible repeat (first | apply Kd.R_alloc | apply Kd.R_drewN | apply Kd.R_drew)); exact Kd.R_mono HO_7.out (fun _ hk => ⟨trivial, hk⟩)) hg (.inl rfl)); have n2_ := Aside0.mk ((by rw [hw]; exact below_set (HB.out) GB12.out : Below w.heap.size w w16)); clear HO_6; clear HO_7; clear HB; have HO_6 := n0_; have HO_7 := n1_; have HB := n2_; clear n0_ n1_ n2_; clear hg hw hp_))
        repeat (go_quiet (first | ((with_reducible refine gate_store (t := 24) (p := 44) rfl ?_); (try (rw [drewN_self wr]; generalize hq_ : World.drewN wr _ = wr; have n0_ := Aside0.mk (Kd.R_at hq_ HO_6.out); have n1_ := Aside0.mk (Kd.R_at hq_ HO_7.out); have n2_ := Aside0.mk (below_at hq_ HB.out); clear hq_ HO_6 HO_7 HB; have HO_6 := n0_; have HO_7 := n1_; have HB := n2_; clear n0_ n1_ n2_; (try (obtain ⟨hx12_0, hf12_0⟩ := Kd.R_celln 0 HO_6.out (x9_1 : Int) (of_eq_true p12) (of_eq_true q12))); (try (have HP15 := Kd.R_putg HO_6.out (x9_1 : Int) (Int.tmod (IntKind.u64.wrap ((IntKind.u64.wrap ((rd x6_1 x9_1) + (rd t427 x9_1))) + x8_1)) 65536))))); refine store_event (t := 24) (p := 44) (v := ?vo_w16) (w1 := (wr.setCell ⟨go12, (x9_1 : Int).toNat, none⟩ (.int .u64 (Int.tmod (IntKind.u64.wrap ((IntKind.u64.wrap ((rd x6_1 x9_1) + (rd t427 x9_1))) + x8_1)) 65536)))) ?hg ?ho ?hn ?hr ?_; (case ho => rfl); (case hg => rfl); (case hn => rfl); (case hr => first | (go_simp; done) | (go_simp; rfl)); intro w16 hw; have hg : wr.grownBy w16 (some go12) := (by rw [hw]; exact HP15.2); have hp_ : Kd.R (Kd.int .u64) 24 w16 w.heap.size (fun k_ => some k_ ≠ (.slice (some ad431) t427.length co14 : Value).ownBlock) (.slice (some ⟨go12, 0, none⟩) x6_1.length co13) y432 := (by rw [hw, Ny432.out]; exact HP15.1); clear HP15; have n0_ := Aside0.mk (hp_); have n1_ := Aside0.mk (Kd.R_after (v := (.slice (some ⟨go12, 0, none⟩) x6_1.length co13)) (v1 := (.slice (some ⟨go12, 0, none⟩) x6_1.length co13)) (ok := (fun _ => True)) (by (with_reducible repeat (first | apply Kd.R_alloc | apply Kd.R_drewN | apply Kd.R_drew)); exact Kd.R_mono HO_7.out (fun _ hk => ⟨trivial, hk⟩)) hg (.inl rfl)); have n2_ := Aside0.mk ((by rw [hw]; exact below_set (HB.out) GB12.out : Below w.heap.size w w16)); clear HO_6; clear HO_7; clear HB; have HO_6 := n0_; have HO_7 := n1_; have HB := n2_; clear n0_ n1_ n2_; clear hg hw hp_)); try go_wp2_with (first | ((with_reducible refine gate_store (t := 24) (p := 44) rfl ?_); (try (rw [drewN_self wr]; generalize hq_ : World.drewN wr _ = wr; have n0_ := Aside0.mk (Kd.R_at hq_ HO_6.out); have n1_ := Aside0.mk (Kd.R_at hq_ HO_7.out); have n2_ := Aside0.mk (below_at hq_ HB.out); clear hq_ HO_6 HO_7 HB; have HO_6 := n0_; have HO_7 := n1_; have HB := n2_; clear n0_ n1_ n2_; (try (obtain ⟨hx12_0, hf12_0⟩ := Kd.R_celln 0 HO_6.out (x9_1 : Int) (of_eq_true p12) (of_eq_true q12))); (try (have HP15 := Kd.R_putg HO_6.out (x9_1 : Int) (Int.tmod (IntKind.u64.wrap ((IntKind.u64.wrap ((rd x6_1 x9_1) + (rd t427 x9_1))) + x8_1)) 65536))))); refine store_event (t := 24) (p := 44) (v := ?vo_w16) (w1 := (wr.setCell ⟨go12, (x9_1 : Int).toNat, none⟩ (.int .u64 (Int.tmod (IntKind.u64.wrap ((IntKind.u64.wrap ((rd x6_1 x9_1) + (rd t427 x9_1))) + x8_1)) 65536)))) ?hg ?ho ?hn ?hr ?_; (case ho => rfl); (case hg => rfl); (case hn => rfl); (case hr => first | (go_simp; done) | (go_simp; rfl)); intro w16 hw; have hg : wr.grownBy w16 (some go12) := (by rw [hw]; exact HP15.2); have hp_ : Kd.R (Kd.int .u64) 24 w16 w.heap.size (fun k_ => some k_ ≠ (.slice (some ad431) t427.length co14 : Value).ownBlock) (.slice (some ⟨go12, 0, none⟩) x6_1.length co13) y432 := (by rw [hw, Ny432.out]; exact HP15.1); clear HP15; have n0_ := Aside0.mk (hp_); have n1_ := Aside0.mk (Kd.R_after (v := (.slice (some ⟨go12, 0, none⟩) x6_1.length co13)) (v1 := (.slice (some ⟨go12, 0, none⟩) x6_1.length co13)) (ok := (fun _ => True)) (by (with_reducible repeat (first | apply Kd.R_alloc | apply Kd.R_drewN | apply Kd.R_drew)); exact Kd.R_mono HO_7.out (fun _ hk => ⟨trivial, hk⟩)) hg (.inl rfl)); have n2_ := Aside0.mk ((by rw [hw]; exact below_set (HB.out) GB12.out : Below w.heap.size w w16)); clear HO_6; clear HO_7; clear HB; have HO_6 := n0_; have HO_7 := n1_; have HB := n2_; clear n0_ n1_ n2_; clear hg hw hp_)))
        go_roundg k1
        case measure => have := HK1.out; omega
        case rel => exact ⟨(y432), (IntKind.u64.wrap (Int.tdiv (IntKind.u64.wrap ((IntKind.u64.wrap ((rd x6_1 x9_1) + (rd t427 x9_1))) + x8_1)) 65536)), (wrap64 (x9_1 + 1)), (by first | rfl | (simp; done) | (simp [*]; done) | (simp; exact isEmpty_bne _)), (by first | rfl | (simp; done) | (simp [*]; done) | (simp; exact isEmpty_bne _)), H', ⟨by have := HK1.out; omega⟩, ⟨by (with_reducible repeat (first | apply Kd.R_alloc | apply Kd.R_drewN | apply Kd.R_drew)); exact HO_6.out⟩, ⟨by (with_reducible repeat (first | apply Kd.R_alloc | apply Kd.R_drewN | apply Kd.R_drew)); exact Kd.R_mono HO_7.out (fun _ hk => hk.2)⟩, ⟨BL⟩⟩
      · rw [if_neg c8] at H
        have c8b0 : decide (x9_1 < (wrap64 ((wrap64 (2 * (ji3))) + 2))) = false := decide_eq_false c8
        clear c8
        obtain ⟨t433, A17, H⟩ := bind_p H
        obtain rfl := Option.some.inj H
        obtain ⟨Ao18, co18, eo18⟩ := Kd.R_slice HO_6.out
        subst eo18
        go_wp2_with (first | (go_at_call 37; (with_reducible refine (samphireref02_Whole.calls k1 _ _ x6_1 t433 _ ?side1 ?side2 A17.out).mono ?_); (case side1 => exact RR HO_6); (case side2 => exact (Kd.R_reads' HO_6.out).2.1); rintro e w19 ⟨v434, rfl, ho0, hb⟩; have n0_ := Aside0.mk (Kd.R_below (RL HO_6) hb); have n1_ := Aside0.mk (Kd.R_below (RL HO_7) hb); have n2_ := Aside0.mk (Kd.R_lower ho0 (below_size BL)); have n3_ := Aside0.mk (below_step BL hb); clear HO_6; clear HO_7; clear HB; have HO_6 := n0_; have HO_7 := n1_; have HO435 := n2_; have HB := n3_; clear n0_ n1_ n2_ n3_; (try clear hb); (try clear hb2); (try clear hk); (try clear hi); (try clear ho0)))
        repeat (go_quiet (first | (go_at_call 37; (with_reducible refine (samphireref02_Whole.calls k1 _ _ x6_1 t433 _ ?side1 ?side2 A17.out).mono ?_); (case side1 => exact RR HO_6); (case side2 => exact (Kd.R_reads' HO_6.out).2.1); rintro e w19 ⟨v434, rfl, ho0, hb⟩; have n0_ := Aside0.mk (Kd.R_below (RL HO_6) hb); have n1_ := Aside0.mk (Kd.R_below (RL HO_7) hb); have n2_ := Aside0.mk (Kd.R_lower ho0 (below_size BL)); have n3_ := Aside0.mk (below_step BL hb); clear HO_6; clear HO_7; clear HB; have HO_6 := n0_; have HO_7 := n1_; have HO435 := n2_; have HB := n3_; clear n0_ n1_ n2_ n3_; (try clear hb); (try clear hb2); (try clear hk); (try clear hi); (try clear ho0))); try go_wp2_with (first | (go_at_call 37; (with_reducible refine (samphireref02_Whole.calls k1 _ _ x6_1 t433 _ ?side1 ?side2 A17.out).mono ?_); (case side1 => exact RR HO_6); (case side2 => exact (Kd.R_reads' HO_6.out).2.1); rintro e w19 ⟨v434, rfl, ho0, hb⟩; have n0_ := Aside0.mk (Kd.R_below (RL HO_6) hb); have n1_ := Aside0.mk (Kd.R_below (RL HO_7) hb); have n2_ := Aside0.mk (Kd.R_lower ho0 (below_size BL)); have n3_ := Aside0.mk (below_step BL hb); clear HO_6; clear HO_7; clear HB; have HO_6 := n0_; have HO_7 := n1_; have HO435 := n2_; have HB := n3_; clear n0_ n1_ n2_ n3_; (try clear hb); (try clear hb2); (try clear hk); (try clear hi); (try clear ho0))))
        go_ret
        exact ⟨_, by first | rfl | (simp [errW_none, errW_some] <;> rfl) | (simp only [← hji3]; first | rfl | (simp [errW_none, errW_some] <;> rfl)) | (simp [*, errW_none, errW_some] <;> rfl), by (with_reducible repeat (first | apply Kd.R_alloc | apply Kd.R_drewN | apply Kd.R_drew)); exact HO435.out, BL⟩

/-! ### samphireref02_Text: function 52 -/
set_option maxHeartbeats 8000000 in
set_option maxRecDepth 100000 in
theorem samphireref02_Text.calls (k : Nat) (P0_ : Nat → Prop) (A0 : Option Addr) (c0 : Nat) (l0 : List Int) (r : ByteArray) (w : World) (hs0 : Kd.V (Kd.int .u32) 34 w w.heap.size (fun k_ => P0_ k_) (.slice A0 l0.length c0) l0) (h : samphireref02_Text.f k l0 = some r) :
    Calls Tryd.prog 52 #[.slice A0 l0.length c0] w fun e w' => e = .returned (.string r) ∧ Below w.heap.size w w' := by
  have HO0 := Aside0.mk (show Kd.V (Kd.int .u32) 34 w w.heap.size (fun k_ => (P0_ k_ ∨ w.heap.size ≤ k_)) (.slice A0 l0.length c0) l0 from Kd.V_mono hs0 (fun k_ hk => .inl hk))
  have HB := Aside0.mk (Below.refl w.heap.size w)
  have H : (samphireref02_Text.l0 k l0 (⟨#[]⟩ : ByteArray)) = some r := h
  clear h
  have H' := Aside0.mk H
  clear H
  go_enter Tryd.func52, Tryd.ntmps52
  go_wp2
  go_loopg [0, 3] k (fun kq v0 v3 w' => ∃ (x0_1 : List Int) (x3_1 : ByteArray), v3 = .string x3_1 ∧ Aside0 (samphireref02_Text.l0 kq x0_1 x3_1 = some r) ∧ Aside0 (kq ≤ k) ∧ Aside0 (Kd.V (Kd.int .u32) 34 w' w.heap.size (fun k_ => (P0_ k_ ∨ w.heap.size ≤ k_)) v0 x0_1) ∧ Aside0 (Below w.heap.size w w'))
  case atStart => exact ⟨(l0), ((⟨#[]⟩ : ByteArray)), (by first | rfl | (simp; done) | (simp [*]; done) | (simp; exact isEmpty_bne _)), H', ⟨Nat.le_refl _⟩, ⟨by (with_reducible repeat (first | apply Kd.V_alloc | apply Kd.V_drewN | apply Kd.V_drew)); exact HO0.out⟩, ⟨BL⟩⟩
  case round =>
    clear H'
    obtain ⟨x0_1, x3_1, rfl, HA, HK1, HO_0, HB⟩ := hrel
    cases gk with
    | zero => exact absurd HA.out (by simp [samphireref02_Text.l0])
    | succ k1 =>
      have H := HA.out
      clear HA
      simp only [samphireref02_Text.l0] at H
      obtain ⟨t436, A2, H⟩ := bind_p H
      have H' := Aside0.mk H
      clear H
      obtain ⟨Ao3, co3, eo3⟩ := Kd.V_slice HO_0.out
      subst eo3
      go_wp2_with (first | ((with_reducible refine gate_callee (f := 48) rfl ?_); refine goesL_ (some 12) rfl rfl Tryd.func48 (by kernel_rfl) rfl #[.slice Ao3 x0_1.length co3, .int .i64 (wrap64 (2 * (x0_1.length : Int)))] rfl EQ ?_; (with_reducible refine (samphireref02_Half.calls k1 _ _ x0_1 (wrap64 (2 * (x0_1.length : Int))) t436 _ ?side1 ?side2 A2.out).mono ?_); (case side1 => repeat (first | exact (Kd.V_reads' HO_0.out).2.2 | (with_reducible refine Kd.C_alloc ?_ _) | (with_reducible refine Kd.C_drewN ?_ _) | (with_reducible refine Kd.C_drew ?_))); (case side2 => exact (Kd.V_reads' HO_0.out).2.1); rintro e w4 ⟨v437, rfl, ho0, hb⟩; refine ⟨_, rfl, ?_⟩; have n0_ := Aside0.mk (Kd.V_elder' (by (with_reducible repeat (first | apply Kd.V_alloc | apply Kd.V_drewN | apply Kd.V_drew)); exact HO_0.out) (Kd.R_base ho0) hb); have n1_ := Aside0.mk (Kd.R_lower (Kd.R_newM (M := fun k_ => (w.heap.size ≤ k_)) ho0 (below_size BL) (fun k_ h_ => h_)) (below_size BL)); have n2_ := Aside0.mk (below_step BL hb); clear HO_0; clear HB; have HO_0 := n0_; have HO438 := n1_; have HB := n2_; clear n0_ n1_ n2_; (try clear hb); (try clear hb2); (try clear hk); (try clear hi); (try clear ho0); obtain ⟨Ao5, co5, eo5⟩ := Kd.R_slice HO438.out; subst eo5))
      go_loopg [5, 7] k1 (fun kq v5 v7 w' => ∃ (x5_2 : Int) (x6_2 : List Int) (x7_2 : Int), v5 = .int .u64 x5_2 ∧ v7 = .int .i64 x7_2 ∧ Aside0 (samphireref02_Text.l1 kq x3_1 x5_2 x6_2 x7_2 = some r) ∧ Aside0 (kq ≤ k1) ∧ Aside0 (Kd.R (Kd.int .u64) 24 w' w.heap.size (fun k_ => (w.heap.size ≤ k_)) (.slice Ao5 t436.length co5) x6_2) ∧ Aside0 (Below w.heap.size w w'))
      case atStart => exact ⟨(0), (t436), (wrap64 ((t436.length : Int) - 1)), (by first | rfl | (simp; done) | (simp [*]; done) | (simp; exact isEmpty_bne _)), (by first | rfl | (simp; done) | (simp [*]; done) | (simp; exact isEmpty_bne _)), H', ⟨Nat.le_refl _⟩, ⟨by (with_reducible repeat (first | apply Kd.R_alloc | apply Kd.R_drewN | apply Kd.R_drew)); exact Kd.R_mono HO438.out (fun _ hk => hk.1)⟩, ⟨BL⟩⟩
      case round =>
        clear H'
        try clear p2
        try clear c4
        try clear c5
        obtain ⟨x5_2, x6_2, x7_2, rfl, rfl, HA, HK2, HO_6, HB⟩ := hrel
        have hl6_2 := (Kd.R_reads' HO_6.out).1
        rw [hl6_2] at HO_6
        (try simp only [hl6_2])
        cases gk with
        | zero => exact absurd HA.out (by simp [samphireref02_Text.l1])
        | succ k2 =>
          have H := HA.out
          clear HA
          simp only [samphireref02_Text.l1] at H
          by_cases c6 : x7_2 ≥ 0
          · rw [if_pos c6] at H
            have c6b0 : decide (0 ≤ x7_2) = true := decide_eq_true c6
            clear c6
            obtain ⟨c7, H⟩ := ite_p H
            have c7b0 : decide (0 ≤ x7_2) = true := decide_eq_true c7
            clear c7
            obtain ⟨c8, H⟩ := ite_p H
            have c8b0 : decide (x7_2 < (x6_2.length : Int)) = true := decide_eq_true c8
            (try (have c8h0 := c8b0; simp only [hl6_2] at c8h0))
            clear c8
            obtain ⟨y440, Ny440⟩ := let_p (x6_2.set (x7_2 : Int).toNat (IntKind.u64.wrap (Int.tdiv (IntKind.u64.wrap ((IntKind.u64.wrap (65536 * x5_2)) + (rd x6_2 x7_2))) 10)) : List Int)
            (first | rw [← Ny440.out] at H | simp only [← Ny440.out] at H)
            have H' := Aside0.mk H
            clear H
            have p439 : 0 ≤ (x7_2 : Int) := DA
            have q439 : x7_2 < (x6_2.length : Int) := DA
            obtain ⟨ad439, e439, hx439_0⟩ := Kd.at_int (Kd.R_reads' HO_6.out).2.2 x7_2 p439 q439
            cases e439
            replace p439 := eq_true p439
            replace q439 := eq_true q439
            have p9 : 0 ≤ (x7_2 : Int) := DA
            have q9 : (x7_2 : Int) < ((x6_2.length : Int) : Int) := DA
            obtain ⟨go9, co9, eo9, gb9, gl9, cl9, HG9⟩ := Kd.R_form HO_6.out (by omega)
            (first | cases eo9 | (injection eo9 with ea_ en_ ec_; (first | subst ea_ | (injection ea_ with ea_; subst ea_)); subst ec_; clear en_))
            have GB9 := Aside0.mk gb9
            have GG9 := Aside0.mk HG9
            clear gb9 gl9 HG9
            (first | simp only [add_plain] at hx439_0 | skip)
            obtain ⟨hx9_0, hf9_0⟩ := Kd.R_celln 0 HO_6.out (x7_2 : Int) p9 q9
            replace p9 := eq_true p9
            replace q9 := eq_true q9
            have HP10 := Kd.R_putg HO_6.out (x7_2 : Int) (IntKind.u64.wrap (Int.tdiv (IntKind.u64.wrap ((IntKind.u64.wrap (65536 * x5_2)) + (rd x6_2 x7_2))) 10))
            go_wp2_with (first | ((with_reducible refine gate_store (t := 24) (p := 31) rfl ?_); refine store_event (t := 24) (p := 31) (v := ?vo_w11) (w1 := (wr.setCell ⟨go9, (x7_2 : Int).toNat, none⟩ (.int .u64 (IntKind.u64.wrap (Int.tdiv (IntKind.u64.wrap ((IntKind.u64.wrap (65536 * x5_2)) + (rd x6_2 x7_2))) 10))))) ?hg ?ho ?hn ?hr ?_; (case ho => rfl); (case hg => rfl); (case hn => rfl); (case hr => first | (go_simp; done) | (go_simp; rfl)); intro w11 hw; have hg : wr.grownBy w11 (some go9) := (by rw [hw]; exact HP10.2); have hp_ : Kd.R (Kd.int .u64) 24 w11 w.heap.size (fun k_ => (w.heap.size ≤ k_)) (.slice (some ⟨go9, 0, none⟩) x6_2.length co5) y440 := (by rw [hw, Ny440.out]; exact HP10.1); clear HP10; have n0_ := Aside0.mk (hp_); have n1_ := Aside0.mk ((by rw [hw]; exact below_set (HB.out) GB9.out : Below w.heap.size w w11)); clear HO_6; clear HB; have HO_6 := n0_; have HB := n1_; clear n0_ n1_; clear hg hw hp_))
            (try simp only [← hl6_2])
            go_roundg k2
            case measure => have := HK1.out; have := HK2.out; omega
            case rel => exact ⟨(Int.tmod (IntKind.u64.wrap ((IntKind.u64.wrap (65536 * x5_2)) + (rd x6_2 x7_2))) 10), (y440), (wrap64 (x7_2 - 1)), (by first | rfl | (simp; done) | (simp [*]; done) | (simp; exact isEmpty_bne _)), (by first | rfl | (simp; done) | (simp [*]; done) | (simp; exact isEmpty_bne _)), H', ⟨by have := HK1.out; have := HK2.out; omega⟩, ⟨by (try simp only [hl6_2]); (with_reducible repeat (first | apply Kd.R_alloc | apply Kd.R_drewN | apply Kd.R_drew)); exact HO_6.out⟩, ⟨BL⟩⟩
          · rw [if_neg c6] at H
            have c6b0 : decide (0 ≤ x7_2) = false := decide_eq_false c6
            clear c6
            obtain ⟨t441, A12, H⟩ := bind_p H
            obtain ⟨y444, Ny444, H⟩ := some_p H
            obtain ⟨c13, H⟩ := ite_p H
            have c13b0 := eq_true c13
            have c13b1 : decide ((strOfNums y444).size + x3_1.size ≤ 9223372036854775807) = true := decide_eq_true c13
            try have c13b2 : (9223372036854775807 < (strOfNums y444).size + x3_1.size) = False := eq_false (Nat.not_lt.2 c13)
            by_cases c14 : (t441.length : Int) = 0
            · rw [if_pos c14] at H
              have c14b0 : ((t441.length : Int) == 0) = true := beq_iff_eq.mpr c14
              have c14b1 : ((t441.length : Int) != 0) = false := bne_eq_false_iff_eq.mpr c14
              (try (have c14h0 := c14b0; simp only [hl6_2] at c14h0))
              (try (have c14h1 := c14b1; simp only [hl6_2] at c14h1))
              clear c14
              obtain rfl := Option.some.inj H
              go_wp2_with (first | ((with_reducible refine gate_callee (f := 37) rfl ?_); refine goesL_ (some 35) rfl rfl Tryd.func37 (by kernel_rfl) rfl #[.slice Ao5 x6_2.length co5] rfl EQ ?_; (with_reducible refine (samphireref02_Whole.calls k2 _ _ x6_2 t441 _ ?side1 ?side2 A12.out).mono ?_); (case side1 => exact RR HO_6); (case side2 => exact (Kd.R_reads' HO_6.out).2.1); rintro e w15 ⟨v442, rfl, ho0, hb⟩; refine ⟨_, rfl, ?_⟩; have n0_ := Aside0.mk (Kd.R_below (RL HO_6) hb); have n1_ := Aside0.mk (Kd.R_lower (Kd.R_newM (M := fun k_ => (w.heap.size ≤ k_)) ho0 (below_size BL) (fun k_ h_ => h_)) (below_size BL)); have n2_ := Aside0.mk (below_step BL hb); clear HO_6; clear HB; have HO_6 := n0_; have HO443 := n1_; have HB := n2_; clear n0_ n1_ n2_; (try clear hb); (try clear hb2); (try clear hk); (try clear hi); (try clear ho0)) | ((with_reducible refine gate_dst (N := 39) rfl ?_); refine Kd.R_lit (Kd.int .u8) _ 5 ?hg (N := 39) ?hd (xs := ([(IntKind.u64.wrap (48 + x5_2)) % 256] : List Int)) (inner := [.int .u8 ((IntKind.u64.wrap (48 + x5_2)) % 256)]) (ok := fun _ => True) (okp := fun _ => True) ?hr ?hp (fun _ hk => hk) trivial (Below.refl _ _) (Nat.le_refl _) (by simp) ?_; (case hd => rfl); (case hg => rfl); (case hr => first | (go_simp; done) | (go_simp; rfl)); (case hp => exact (Reps.one (show Kd.M (Kd.int .u8) _ _ _ ((IntKind.u64.wrap (48 + x5_2)) % 256) [.int .u8 ((IntKind.u64.wrap (48 + x5_2)) % 256)] from rfl) (Reps.none _ _))); intro v445 w16 ho17 hb hg_ hnew_; clear hg_ hnew_; (first | rw [← Ny444.out] at ho17 | (simp only [Int.reduceToNat] at ho17; rw [← Ny444.out] at ho17)); have n0_ := Aside0.mk (Kd.R_below (RL HO_6) hb); have n1_ := Aside0.mk (Kd.R_below (RL HO443) hb); have n2_ := Aside0.mk (Kd.R_lower (Kd.R_newM (M := fun k_ => (w.heap.size ≤ k_)) ho17 (below_size BL) (fun k_ h_ => h_)) (below_size BL)); have n3_ := Aside0.mk (below_step BL hb); clear HO_6; clear HO443; clear HB; have HO_6 := n0_; have HO443 := n1_; have HO446 := n2_; have HB := n3_; clear n0_ n1_ n2_ n3_; clear hb ho17; have hcv18 := own_string (P := Tryd.prog) Tryd.underlying81 Tryd.underlying5 Tryd.underlying9 (Kd.own_of_R HO446.out); obtain ⟨Ao19, co19, eo19⟩ := Kd.R_slice HO443.out; subst eo19))
              go_ret
              exact ⟨by first | rfl | (simp [errW_none, errW_some] <;> rfl) | (simp [*, errW_none, errW_some] <;> rfl), BL⟩
            · rw [if_neg c14] at H
              have c14b0 : ((t441.length : Int) == 0) = false := beq_eq_false_iff_ne.mpr c14
              have c14b1 : ((t441.length : Int) != 0) = true := bne_iff_ne.mpr c14
              have c14b2 : ¬ (t441 = []) := fun h_ => c14 (by rw [h_]; rfl)
              (try (have c14h0 := c14b0; simp only [hl6_2] at c14h0))
              (try (have c14h1 := c14b1; simp only [hl6_2] at c14h1))
              have H' := Aside0.mk H
              clear H
              go_wp2_with (first | ((with_reducible refine gate_callee (f := 37) rfl ?_); refine goesL_ (some 35) rfl rfl Tryd.func37 (by kernel_rfl) rfl #[.slice Ao5 x6_2.length co5] rfl EQ ?_; (with_reducible refine (samphireref02_Whole.calls k2 _ _ x6_2 t441 _ ?side1 ?side2 A12.out).mono ?_); (case side1 => exact RR HO_6); (case side2 => exact (Kd.R_reads' HO_6.out).2.1); rintro e w20 ⟨v442, rfl, ho0, hb⟩; refine ⟨_, rfl, ?_⟩; have n0_ := Aside0.mk (Kd.R_below (RL HO_6) hb); have n1_ := Aside0.mk (Kd.R_lower (Kd.R_newM (M := fun k_ => (w.heap.size ≤ k_)) ho0 (below_size BL) (fun k_ h_ => h_)) (below_size BL)); have n2_ := Aside0.mk (below_step BL hb); clear HO_6; clear HB; have HO_6 := n0_; have HO443 := n1_; have HB := n2_; clear n0_ n1_ n2_; (try clear hb); (try clear hb2); (try clear hk); (try clear hi); (try clear ho0)) | ((with_reducible refine gate_dst (N := 39) rfl ?_); refine Kd.R_lit (Kd.int .u8) _ 5 ?hg (N := 39) ?hd (xs := ([(IntKind.u64.wrap (48 + x5_2)) % 256] : List Int)) (inner := [.int .u8 ((IntKind.u64.wrap (48 + x5_2)) % 256)]) (ok := fun _ => True) (okp := fun _ => True) ?hr ?hp (fun _ hk => hk) trivial (Below.refl _ _) (Nat.le_refl _) (by simp) ?_; (case hd => rfl); (case hg => rfl); (case hr => first | (go_simp; done) | (go_simp; rfl)); (case hp => exact (Reps.one (show Kd.M (Kd.int .u8) _ _ _ ((IntKind.u64.wrap (48 + x5_2)) % 256) [.int .u8 ((IntKind.u64.wrap (48 + x5_2)) % 256)] from rfl) (Reps.none _ _))); intro v445 w21 ho22 hb hg_ hnew_; clear hg_ hnew_; (first | rw [← Ny444.out] at ho22 | (simp only [Int.reduceToNat] at ho22; rw [← Ny444.out] at ho22)); have n0_ := Aside0.mk (Kd.R_below (RL HO_6) hb); have n1_ := Aside0.mk (Kd.R_below (RL HO443) hb); have n2_ := Aside0.mk (Kd.R_lower (Kd.R_newM (M := fun k_ => (w.heap.size ≤ k_)) ho22 (below_size BL) (fun k_ h_ => h_)) (below_size BL)); have n3_ := Aside0.mk (below_step BL hb); clear HO_6; clear HO443; clear HB; have HO_6 := n0_; have HO443 := n1_; have HO446 := n2_; have HB := n3_; clear n0_ n1_ n2_ n3_; clear hb ho22; have hcv23 := own_string (P := Tryd.prog) Tryd.underlying81 Tryd.underlying5 Tryd.underlying9 (Kd.own_of_R HO446.out); obtain ⟨Ao24, co24, eo24⟩ := Kd.R_slice HO443.out; subst eo24))
              (try simp only [← hl6_2])
              go_roundg k2
              case measure => have := HK1.out; have := HK2.out; omega
              case rel => exact ⟨(t441), ((strOfNums y444) ++ x3_1), (by first | rfl | (simp; done) | (simp [*]; done) | (simp; exact isEmpty_bne _)), H', ⟨by have := HK1.out; have := HK2.out; omega⟩, ⟨Kd.V_mono (Kd.R_V (by (try simp only [hl6_2]); (with_reducible repeat (first | apply Kd.R_alloc | apply Kd.R_drewN | apply Kd.R_drew)); exact Kd.R_mono HO443.out (fun _ hk => hk.1))) (fun k_ hk => by first | exact ⟨(.inr (hk.1)), hk.2⟩ | exact (.inr (hk)))⟩, ⟨BL⟩⟩

end Go.Proofs.YtecbbenfcepohaaDoor.K
