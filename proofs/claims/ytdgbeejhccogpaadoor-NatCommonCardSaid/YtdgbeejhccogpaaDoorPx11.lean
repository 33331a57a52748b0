-- Printed by this session's own program out of the translation.
import Derived.Test.YtdgbeejhccogpaaDoorPx0
import Derived.Test.YtdgbeejhccogpaaDoorPx1
import Derived.Test.YtdgbeejhccogpaaDoorPx2
import Derived.Test.YtdgbeejhccogpaaDoorPx3
namespace Go.Proofs.YtdgbeejhccogpaaDoor.P
open Go.RowKit Go.Proofs.YtdgbeejhccogpaaDoorW.PrintWords Go.Proofs.YtdgbeejhccogpaaDoorW.PrintLast Go.Proofs.YtdgbeejhccogpaaDoorW.PrintMore
attribute [local go_sem] max2_int min2_int max_two min_two max_three min_three max_four min_four   -- for this text's walks alone
set_option linter.unusedVariables false
set_option linter.unusedSimpArgs false

/-! ### samphirelaw02_NatCommon: function 4 -/
set_option maxHeartbeats 8000000 in
set_option maxRecDepth 100000 in
theorem samphirelaw02_NatCommon.calls (k : Nat) (A0 : Option Addr) (c0 : Nat) (l0 : List Int) (A1 : Option Addr) (c1 : Nat) (l1 : List Int) (r : Bool) (w : World) (hr0 : Kd.C (Kd.int .u32) w A0 l0.length l0) (hc0 : l0.length ≤ c0) (hr1 : Kd.C (Kd.int .u32) w A1 l1.length l1) (hc1 : l1.length ≤ c1) (h : samphirelaw02_NatCommon.f k l0 l1 = some r) :
    Calls Tryd.prog 4 #[.slice A0 l0.length c0, .slice A1 l1.length c1] w fun e w' => e = .returned (.bool r) ∧ Below w.heap.size w w' := by
  have HR0 := Aside0.mk hr0
  have HC0 := Aside0.mk hc0
  clear hr0 hc0
  have HR1 := Aside0.mk hr1
  have HC1 := Aside0.mk hc1
  clear hr1 hc1
  have HB := Aside0.mk (Below.refl w.heap.size w)
  have H : (if (l0.length : Int) > 20 then (samphirelaw02_NatCommon.j0 k l0 l1 true) else (if (l1.length : Int) > 20 then (samphirelaw02_NatCommon.j0 k l0 l1 true) else ((nat_Right.f l0).bind fun t492 => (if t492 = true then ((nat_Right.f l1).bind fun t493 => (if t493 = true then (samphirelaw02_NatCommon.j0 k l0 l1 ((wrap64 ((l0.length : Int) + (l1.length : Int))) == 0)) else (samphirelaw02_NatCommon.j0 k l0 l1 true))) else (samphirelaw02_NatCommon.j0 k l0 l1 true))))) = some r := h
  clear h
  have HC3 := Aside0.mk H
  clear H
  go_enter Tryd.func4, Tryd.ntmps4
  go_upto_region 1 with (fail)
  go_cut [42] (fun v42 wc => ∃ (kq : Nat) (x42_2 : Bool), v42 = .bool x42_2 ∧ Aside0 (samphirelaw02_NatCommon.j0 kq l0 l1 x42_2 = some r) ∧ Aside0 (kq ≤ k) ∧ Aside0 (Below w.heap.size w wc))
  case first =>
    have H := HC3.out
    clear HC3
    by_cases c4 : (l0.length : Int) > 20
    · rw [if_pos c4] at H
      have c4b0 : decide (20 < (l0.length : Int)) = true := decide_eq_true c4
      have c4b1 : decide (20 < l0.length) = true := decide_eq_true (by omega)
      clear c4
      (first | rw [c4b0] | (simp only [i64_w, i32_w]; rw [c4b0]) | skip)
      have H' := Aside0.mk H
      clear H
      go_wp2
      go_meet
      case rel => exact ⟨_, (true), (by first | rfl | (simp; done) | (simp [*]; done) | (simp; exact isEmpty_bne _)), H', ⟨by first | omega | exact Nat.le_refl _⟩, ⟨BL⟩⟩
    · rw [if_neg c4] at H
      have c4b0 : decide (20 < (l0.length : Int)) = false := decide_eq_false c4
      have c4b1 : decide (20 < l0.length) = false := decide_eq_false (by omega)
      clear c4
      (first | rw [c4b0] | (simp only [i64_w, i32_w]; rw [c4b0]) | skip)
      by_cases c5 : (l1.length : Int) > 20
      · rw [if_pos c5] at H
        have c5b0 : decide (20 < (l1.length : Int)) = true := decide_eq_true c5
        have c5b1 : decide (20 < l1.length) = true := decide_eq_true (by omega)
        clear c5
        have H' := Aside0.mk H
        clear H
        go_wp2
        go_meet
        case rel => exact ⟨_, (true), (by first | rfl | (simp; done) | (simp [*]; done) | (simp; exact isEmpty_bne _)), H', ⟨by first | omega | exact Nat.le_refl _⟩, ⟨BL⟩⟩
      · rw [if_neg c5] at H
        have c5b0 : decide (20 < (l1.length : Int)) = false := decide_eq_false c5
        have c5b1 : decide (20 < l1.length) = false := decide_eq_false (by omega)
        clear c5
        obtain ⟨t492, A6, H⟩ := bind_p H
        by_cases c7 : t492 = true
        · subst c7
          have H1 : ((nat_Right.f l1).bind fun t493 => (if t493 = true then (samphirelaw02_NatCommon.j0 k l0 l1 ((wrap64 ((l0.length : Int) + (l1.length : Int))) == 0)) else (samphirelaw02_NatCommon.j0 k l0 l1 true))) = some r := by rw [if_pos rfl] at H; exact H
          clear H
          have H := H1
          clear H1
          obtain ⟨t493, A8, H⟩ := bind_p H
          by_cases c9 : t493 = true
          · subst c9
            have H1 : (samphirelaw02_NatCommon.j0 k l0 l1 ((wrap64 ((l0.length : Int) + (l1.length : Int))) == 0)) = some r := by rw [if_pos rfl] at H; exact H
            clear H
            have H := H1
            clear H1
            have H' := Aside0.mk H
            clear H
            go_wp2_with (first | (go_at_call 20; (with_reducible refine (nat_Right.calls _ _ l0 true _ ?side1 ?side2 A6.out).mono ?_); (case side1 => exact CB HR0); (case side2 => exact HC0.out); rintro e w' ⟨rfl, ⟨nd, rfl⟩⟩) | (go_at_call 20; (with_reducible refine (nat_Right.calls _ _ l1 true _ ?side1 ?side2 A8.out).mono ?_); (case side1 => repeat (first | exact (Kd.C_below HR1.out BL) | (with_reducible refine Kd.C_alloc ?_ _) | (with_reducible refine Kd.C_drewN ?_ _) | (with_reducible refine Kd.C_drew ?_))); (case side2 => exact HC1.out); rintro e w' ⟨rfl, ⟨nd, rfl⟩⟩))
            go_meet
            case rel => exact ⟨_, (((wrap64 ((l0.length : Int) + (l1.length : Int))) == 0)), (by first | rfl | (simp; done) | (simp [*]; done) | (simp; exact isEmpty_bne _)), H', ⟨by first | omega | exact Nat.le_refl _⟩, ⟨BL⟩⟩
          · replace c9 := Bool.eq_false_iff.mpr c9
            subst c9
            have H1 : (samphirelaw02_NatCommon.j0 k l0 l1 true) = some r := by rw [if_neg (show ¬ (false = true) by decide)] at H; exact H
            clear H
            have H := H1
            clear H1
            have H' := Aside0.mk H
            clear H
            go_wp2_with (first | (go_at_call 20; (with_reducible refine (nat_Right.calls _ _ l0 true _ ?side1 ?side2 A6.out).mono ?_); (case side1 => exact CB HR0); (case side2 => exact HC0.out); rintro e w' ⟨rfl, ⟨nd, rfl⟩⟩) | (go_at_call 20; (with_reducible refine (nat_Right.calls _ _ l1 false _ ?side1 ?side2 A8.out).mono ?_); (case side1 => repeat (first | exact (Kd.C_below HR1.out BL) | (with_reducible refine Kd.C_alloc ?_ _) | (with_reducible refine Kd.C_drewN ?_ _) | (with_reducible refine Kd.C_drew ?_))); (case side2 => exact HC1.out); rintro e w' ⟨rfl, ⟨nd, rfl⟩⟩))
            go_meet
            case rel => exact ⟨_, (true), (by first | rfl | (simp; done) | (simp [*]; done) | (simp; exact isEmpty_bne _)), H', ⟨by first | omega | exact Nat.le_refl _⟩, ⟨BL⟩⟩
        · replace c7 := Bool.eq_false_iff.mpr c7
          subst c7
          have H1 : (samphirelaw02_NatCommon.j0 k l0 l1 true) = some r := by rw [if_neg (show ¬ (false = true) by decide)] at H; exact H
          clear H
          have H := H1
          clear H1
          have H' := Aside0.mk H
          clear H
          go_wp2_with (first | (go_at_call 20; (with_reducible refine (nat_Right.calls _ _ l0 false _ ?side1 ?side2 A6.out).mono ?_); (case side1 => exact CB HR0); (case side2 => exact HC0.out); rintro e w' ⟨rfl, ⟨nd, rfl⟩⟩))
          go_meet
          case rel => exact ⟨_, (true), (by first | rfl | (simp; done) | (simp [*]; done) | (simp; exact isEmpty_bne _)), H', ⟨by first | omega | exact Nat.le_refl _⟩, ⟨BL⟩⟩
  case rest =>
    clear HC3
    try clear c1
    try clear p2
    try clear c4
    try clear c4b0
    try clear c4b1
    try clear c5
    try clear c5b0
    try clear c5b1
    try clear p6
    try clear c7
    try clear c9
    obtain ⟨kq, x42_2, rfl, HA, HJ2, HB⟩ := hcut
    cases kq with
    | zero => exact absurd HA.out (by simp [samphirelaw02_NatCommon.j0])
    | succ kj2 =>
      have H := HA.out
      clear HA
      simp only [samphirelaw02_NatCommon.j0] at H
      by_cases c10 : x42_2 = true
      · subst c10
        have H1 : ((samphirelaw02_awake.f kj2).bind fun t494 => (some t494)) = some r := by rw [if_pos rfl] at H; exact H
        clear H
        have H := H1
        clear H1
        obtain ⟨t494, A11, H⟩ := bind_p H
        obtain rfl := Option.some.inj H
        go_wp2_with (first | ((with_reducible refine gate_callee (f := 12) rfl ?_); refine goesL_ (some 43) rfl rfl Tryd.func12 (by kernel_rfl) rfl #[] rfl EQ ?_; (with_reducible refine (samphirelaw02_awake.calls kj2  t494 _ A11.out).mono ?_); rintro e w12 ⟨rfl, hb⟩; refine ⟨_, rfl, ?_⟩; have n0_ := Aside0.mk (below_step BL hb); clear HB; have HB := n0_; clear n0_; (try clear hb); (try clear hb2); (try clear hk); (try clear hi)))
        go_ret
        exact ⟨by first | rfl | (simp [errW_none, errW_some] <;> rfl) | (simp [*, errW_none, errW_some] <;> rfl), BL⟩
      · replace c10 := Bool.eq_false_iff.mpr c10
        subst c10
        have H1 : ((nat_Gcd.f kj2 l0 l1).bind fun bt495 => ((nat_Div.f kj2 l0 bt495.1).bind fun bt499 => ((nat_Div.f kj2 l1 bt495.1).bind fun bt506 => ((nat_Gcd.f kj2 bt499.1 bt506.1).bind fun bt513 => ((nat_Gcd.f kj2 l1 l0).bind fun bt517 => (if bt495.2 = 0 then (if bt499.2.2 = 0 then (if bt506.2.2 = 0 then (if bt513.2 = 0 then (if bt517.2 = 0 then (if (wrap64 ((bt499.2.1.length : Int) + (bt506.2.1.length : Int))) = 0 then ((samphireref02_Same.f kj2 bt513.1 (([1] : List Int))).bind fun t524 => (if t524 = true then ((samphireref02_Same.f kj2 bt517.1 bt495.1).bind fun t525 => (if t525 = true then ((samphirelaw02_awake.f kj2).bind fun t526 => (some t526)) else (none))) else (none))) else (none)) else (none)) else (none)) else (none)) else (none)) else (none))))))) = some r := by rw [if_neg (show ¬ (false = true) by decide)] at H; exact H
        clear H
        have H := H1
        clear H1
        obtain ⟨⟨t495, t498⟩, A13, H⟩ := bind_p H
        dsimp only at H
        obtain ⟨⟨t499, t500, t501⟩, A14, H⟩ := bind_p H
        dsimp only at H
        obtain ⟨⟨t506, t507, t508⟩, A15, H⟩ := bind_p H
        dsimp only at H
        obtain ⟨⟨t513, t516⟩, A16, H⟩ := bind_p H
        dsimp only at H
        obtain ⟨⟨t517, t520⟩, A17, H⟩ := bind_p H
        dsimp only at H
        obtain ⟨c18, H⟩ := ite_p H
        have c18b0 : (t498 == 0) = true := beq_iff_eq.mpr c18
        have c18b1 : (t498 != 0) = false := bne_eq_false_iff_eq.mpr c18
        clear c18
        obtain ⟨c19, H⟩ := ite_p H
        have c19b0 : (t501 == 0) = true := beq_iff_eq.mpr c19
        have c19b1 : (t501 != 0) = false := bne_eq_false_iff_eq.mpr c19
        clear c19
        obtain ⟨c20, H⟩ := ite_p H
        have c20b0 : (t508 == 0) = true := beq_iff_eq.mpr c20
        have c20b1 : (t508 != 0) = false := bne_eq_false_iff_eq.mpr c20
        clear c20
        obtain ⟨c21, H⟩ := ite_p H
        have c21b0 : (t516 == 0) = true := beq_iff_eq.mpr c21
        have c21b1 : (t516 != 0) = false := bne_eq_false_iff_eq.mpr c21
        clear c21
        obtain ⟨c22, H⟩ := ite_p H
        have c22b0 : (t520 == 0) = true := beq_iff_eq.mpr c22
        have c22b1 : (t520 != 0) = false := bne_eq_false_iff_eq.mpr c22
        clear c22
        obtain ⟨c23, H⟩ := ite_p H
        have c23b0 : ((wrap64 ((t500.length : Int) + (t507.length : Int))) == 0) = true := beq_iff_eq.mpr c23
        have c23b1 : ((wrap64 ((t500.length : Int) + (t507.length : Int))) != 0) = false := bne_eq_false_iff_eq.mpr c23
        clear c23
        obtain ⟨y521, Ny521⟩ := let_p (([1] : List Int) : List Int)
        (first | rw [← Ny521.out] at H | simp only [← Ny521.out] at H)
        obtain ⟨t524, A24, H⟩ := bind_p H
        by_cases c25 : t524 = true
        · subst c25
          have H1 : ((samphireref02_Same.f kj2 t517 t495).bind fun t525 => (if t525 = true then ((samphirelaw02_awake.f kj2).bind fun t526 => (some t526)) else (none))) = some r := by rw [if_pos rfl] at H; exact H
          clear H
          have H := H1
          clear H1
          obtain ⟨t525, A26, H⟩ := bind_p H
          by_cases c27 : t525 = true
          · subst c27
            have H1 : ((samphirelaw02_awake.f kj2).bind fun t526 => (some t526)) = some r := by rw [if_pos rfl] at H; exact H
            clear H
            have H := H1
            clear H1
            obtain ⟨t526, A28, H⟩ := bind_p H
            obtain rfl := Option.some.inj H
            go_wp2_with (first | ((with_reducible refine gate_callee (f := 14) rfl ?_); refine goesL_ (some 47) rfl rfl Tryd.func14 (by kernel_rfl) rfl #[.slice A0 l0.length c0, .slice A1 l1.length c1] rfl EQ ?_; (with_reducible refine (nat_Gcd.calls kj2 (fun k_ => k_ < w.heap.size) _ _ l0 (fun k_ => k_ < w.heap.size) _ _ l1 t495 t498 _ ?side1 ?side2 A13.out).mono ?_); (case side1 => exact Kd.V_mk HC0.out (Kd.F_below (Kd.C_F (Kd.heap_int .u32) HR0.out) BL)); (case side2 => exact Kd.V_mk HC1.out (Kd.F_below (Kd.C_F (Kd.heap_int .u32) HR1.out) BL)); rintro e w29 ⟨v496, rfl, ho0, hb⟩; refine ⟨_, rfl, ?_⟩; have n0_ := Aside0.mk (Kd.R_lower (Kd.R_mono (ok' := fun k_ => True) ho0 (fun _ hk_ => trivial)) (below_size BL)); have n1_ := Aside0.mk (below_step BL hb); clear HB; have HO497 := n0_; have HB := n1_; clear n0_ n1_; (try clear hb); (try clear hb2); (try clear hk); (try clear hi); (try clear ho0); obtain ⟨Ao30, co30, eo30⟩ := Kd.R_slice HO497.out; subst eo30) | ((with_reducible refine gate_callee (f := 13) rfl ?_); refine goesL_ (some 53) rfl rfl Tryd.func13 (by kernel_rfl) rfl #[.slice A0 l0.length c0, .slice Ao30 t495.length co30] rfl EQ ?_; (with_reducible refine (nat_Div.calls kj2 _ _ l0 _ _ t495 t499 t500 t501 _ ?side1 ?side2 ?side3 ?side4 A14.out).mono ?_); (case side1 => exact CB HR0); (case side2 => exact HC0.out); (case side3 => exact RR HO497); (case side4 => exact (Kd.R_reads' HO497.out).2.1); rintro e w31 ⟨v502, v504, rfl, ho0, ho1, hb⟩; refine ⟨_, rfl, ?_⟩; have n0_ := Aside0.mk (Kd.R_mono (Kd.R_told (Kd.R_told (Kd.R_old (RL HO497) hb) (Kd.R_base ho0)) (Kd.R_base ho1)) (fun _ h_ => h_.1)); have n1_ := Aside0.mk (Kd.R_lower (Kd.R_new' ho0 (Kd.R_lt (RL HO497))) (below_size BL)); have n2_ := Aside0.mk (Kd.R_lower (Kd.R_new' ho1 (Kd.R_lt (RL HO497))) (below_size BL)); have n3_ := Aside0.mk (below_step BL hb); clear HO497; clear HB; have HO497 := n0_; have HO503 := n1_; have HO505 := n2_; have HB := n3_; clear n0_ n1_ n2_ n3_; (try clear hb); (try clear hb2); (try clear hk); (try clear hi); (try clear ho0); (try clear ho1)) | ((with_reducible refine gate_callee (f := 13) rfl ?_); refine goesL_ (some 60) rfl rfl Tryd.func13 (by kernel_rfl) rfl #[.slice A1 l1.length c1, .slice Ao30 t495.length co30] rfl EQ ?_; (with_reducible refine (nat_Div.calls kj2 _ _ l1 _ _ t495 t506 t507 t508 _ ?side1 ?side2 ?side3 ?side4 A15.out).mono ?_); (case side1 => exact CB HR1); (case side2 => exact HC1.out); (case side3 => exact RR HO497); (case side4 => exact (Kd.R_reads' HO497.out).2.1); rintro e w32 ⟨v509, v511, rfl, ho0, ho1, hb⟩; refine ⟨_, rfl, ?_⟩; have n0_ := Aside0.mk (Kd.R_mono (Kd.R_told (Kd.R_told (Kd.R_old (RL HO497) hb) (Kd.R_base ho0)) (Kd.R_base ho1)) (fun _ h_ => h_.1)); have n1_ := Aside0.mk (Kd.R_mono (Kd.R_told (Kd.R_told (Kd.R_old (RL HO503) hb) (Kd.R_base ho0)) (Kd.R_base ho1)) (fun _ h_ => h_.1)); have n2_ := Aside0.mk (Kd.R_mono (Kd.R_told (Kd.R_told (Kd.R_old (RL HO505) hb) (Kd.R_base ho0)) (Kd.R_base ho1)) (fun _ h_ => h_.1)); have n3_ := Aside0.mk (Kd.R_lower (Kd.R_new' (Kd.R_new' (Kd.R_new' ho0 (Kd.R_lt (RL HO497))) (Kd.R_lt (RL HO503))) (Kd.R_lt (RL HO505))) (below_size BL)); have n4_ := Aside0.mk (Kd.R_lower (Kd.R_new' (Kd.R_new' (Kd.R_new' ho1 (Kd.R_lt (RL HO497))) (Kd.R_lt (RL HO503))) (Kd.R_lt (RL HO505))) (below_size BL)); have n5_ := Aside0.mk (below_step BL hb); clear HO497; clear HO503; clear HO505; clear HB; have HO497 := n0_; have HO503 := n1_; have HO505 := n2_; have HO510 := n3_; have HO512 := n4_; have HB := n5_; clear n0_ n1_ n2_ n3_ n4_ n5_; (try clear hb); (try clear hb2); (try clear hk); (try clear hi); (try clear ho0); (try clear ho1); obtain ⟨Ao33, co33, eo33⟩ := Kd.R_slice HO503.out; subst eo33; obtain ⟨Ao34, co34, eo34⟩ := Kd.R_slice HO510.out; subst eo34) | ((with_reducible refine gate_callee (f := 14) rfl ?_); refine goesL_ (some 67) rfl rfl Tryd.func14 (by kernel_rfl) rfl #[.slice Ao33 t499.length co33, .slice Ao34 t506.length co34] rfl EQ ?_; (with_reducible refine (nat_Gcd.calls kj2 (fun k_ => some k_ = (.slice Ao33 t499.length co33 : Value).ownBlock) _ _ t499 (fun k_ => some k_ = (.slice Ao34 t506.length co34 : Value).ownBlock) _ _ t506 t513 t516 _ ?side1 ?side2 A16.out).mono ?_); (case side1 => exact Kd.R_V (Kd.R_tight rfl (HO503.out))); (case side2 => exact Kd.R_V (Kd.R_tight rfl (HO510.out))); rintro e w35 ⟨v514, rfl, ho0, hb⟩; refine ⟨_, rfl, ?_⟩; have n0_ := Aside0.mk (Kd.R_elder' (RL HO497) (Kd.R_base ho0) hb); have n1_ := Aside0.mk (Kd.R_elder' (RL HO503) (Kd.R_base ho0) hb); have n2_ := Aside0.mk (Kd.R_elder' (RL HO505) (Kd.R_base ho0) hb); have n3_ := Aside0.mk (Kd.R_elder' (RL HO510) (Kd.R_base ho0) hb); have n4_ := Aside0.mk (Kd.R_elder' (RL HO512) (Kd.R_base ho0) hb); have n5_ := Aside0.mk (Kd.R_lower (Kd.R_new' (Kd.R_new' (Kd.R_new' (Kd.R_new' (Kd.R_new' (Kd.R_mono (ok' := fun k_ => True) ho0 (fun _ hk_ => trivial)) (Kd.R_lt (RL HO497))) (Kd.R_lt (RL HO503))) (Kd.R_lt (RL HO505))) (Kd.R_lt (RL HO510))) (Kd.R_lt (RL HO512))) (below_size BL)); have n6_ := Aside0.mk (below_step BL hb); clear HO497; clear HO503; clear HO505; clear HO510; clear HO512; clear HB; have HO497 := n0_; have HO503 := n1_; have HO505 := n2_; have HO510 := n3_; have HO512 := n4_; have HO515 := n5_; have HB := n6_; clear n0_ n1_ n2_ n3_ n4_ n5_ n6_; (try clear hb); (try clear hb2); (try clear hk); (try clear hi); (try clear ho0)) | ((with_reducible refine gate_callee (f := 14) rfl ?_); refine goesL_ (some 73) rfl rfl Tryd.func14 (by kernel_rfl) rfl #[.slice A1 l1.length c1, .slice A0 l0.length c0] rfl EQ ?_; (with_reducible refine (nat_Gcd.calls kj2 (fun k_ => k_ < w.heap.size) _ _ l1 (fun k_ => k_ < w.heap.size) _ _ l0 t517 t520 _ ?side1 ?side2 A17.out).mono ?_); (case side1 => exact Kd.V_mk HC1.out (Kd.F_below (Kd.C_F (Kd.heap_int .u32) HR1.out) BL)); (case side2 => exact Kd.V_mk HC0.out (Kd.F_below (Kd.C_F (Kd.heap_int .u32) HR0.out) BL)); rintro e w36 ⟨v518, rfl, ho0, hb⟩; refine ⟨_, rfl, ?_⟩; have n0_ := Aside0.mk (Kd.R_elder' (RL HO497) (Kd.R_base ho0) hb); have n1_ := Aside0.mk (Kd.R_elder' (RL HO503) (Kd.R_base ho0) hb); have n2_ := Aside0.mk (Kd.R_elder' (RL HO505) (Kd.R_base ho0) hb); have n3_ := Aside0.mk (Kd.R_elder' (RL HO510) (Kd.R_base ho0) hb); have n4_ := Aside0.mk (Kd.R_elder' (RL HO512) (Kd.R_base ho0) hb); have n5_ := Aside0.mk (Kd.R_elder' (RL HO515) (Kd.R_base ho0) hb); have n6_ := Aside0.mk (Kd.R_lower (Kd.R_new' (Kd.R_new' (Kd.R_new' (Kd.R_new' (Kd.R_new' (Kd.R_new' (Kd.R_mono (ok' := fun k_ => True) ho0 (fun _ hk_ => trivial)) (Kd.R_lt (RL HO497))) (Kd.R_lt (RL HO503))) (Kd.R_lt (RL HO505))) (Kd.R_lt (RL HO510))) (Kd.R_lt (RL HO512))) (Kd.R_lt (RL HO515))) (below_size BL)); have n7_ := Aside0.mk (below_step BL hb); clear HO497; clear HO503; clear HO505; clear HO510; clear HO512; clear HO515; clear HB; have HO497 := n0_; have HO503 := n1_; have HO505 := n2_; have HO510 := n3_; have HO512 := n4_; have HO515 := n5_; have HO519 := n6_; have HB := n7_; clear n0_ n1_ n2_ n3_ n4_ n5_ n6_ n7_; (try clear hb); (try clear hb2); (try clear hk); (try clear hi); (try clear ho0); obtain ⟨Ao37, co37, eo37⟩ := Kd.R_slice HO505.out; subst eo37; obtain ⟨Ao38, co38, eo38⟩ := Kd.R_slice HO512.out; subst eo38) | ((with_reducible refine gate_dst (N := 104) rfl ?_); (try (refine gate_guard (by rfl) ?_; dsimp only)); refine Kd.R_lit (Kd.int .u32) _ 36 ?hg (N := 104) ?hd (xs := ([1] : List Int)) (inner := [.int .u32 1]) (ok := fun _ => True) (okp := fun _ => True) ?hr ?hp (fun _ hk => hk) trivial (Below.refl _ _) (Nat.le_refl _) (by simp) ?_; (case hd => rfl); (case hg => rfl); (case hr => first | (go_simp; done) | (go_simp; rfl)); (case hp => exact (Reps.one (show Kd.M (Kd.int .u32) _ _ _ 1 [.int .u32 1] from rfl) (Reps.none _ _))); intro v522 w39 ho40 hb hg_ hnew_; clear hg_ hnew_; (first | rw [← Ny521.out] at ho40 | (simp only [Int.reduceToNat] at ho40; rw [← Ny521.out] at ho40)); have n0_ := Aside0.mk (Kd.R_elder' (RL HO497) (Kd.R_base ho40) hb); have n1_ := Aside0.mk (Kd.R_elder' (RL HO503) (Kd.R_base ho40) hb); have n2_ := Aside0.mk (Kd.R_elder' (RL HO505) (Kd.R_base ho40) hb); have n3_ := Aside0.mk (Kd.R_elder' (RL HO510) (Kd.R_base ho40) hb); have n4_ := Aside0.mk (Kd.R_elder' (RL HO512) (Kd.R_base ho40) hb); have n5_ := Aside0.mk (Kd.R_elder' (RL HO515) (Kd.R_base ho40) hb); have n6_ := Aside0.mk (Kd.R_elder' (RL HO519) (Kd.R_base ho40) hb); have n7_ := Aside0.mk (Kd.R_lower (Kd.R_new' (Kd.R_new' (Kd.R_new' (Kd.R_new' (Kd.R_new' (Kd.R_new' (Kd.R_new' ho40 (Kd.R_lt (RL HO497))) (Kd.R_lt (RL HO503))) (Kd.R_lt (RL HO505))) (Kd.R_lt (RL HO510))) (Kd.R_lt (RL HO512))) (Kd.R_lt (RL HO515))) (Kd.R_lt (RL HO519))) (below_size BL)); have n8_ := Aside0.mk (below_step BL hb); clear HO497; clear HO503; clear HO505; clear HO510; clear HO512; clear HO515; clear HO519; clear HB; have HO497 := n0_; have HO503 := n1_; have HO505 := n2_; have HO510 := n3_; have HO512 := n4_; have HO515 := n5_; have HO519 := n6_; have HO523 := n7_; have HB := n8_; clear n0_ n1_ n2_ n3_ n4_ n5_ n6_ n7_ n8_; clear hb ho40; obtain ⟨Ao41, co41, eo41⟩ := Kd.R_slice HO515.out; subst eo41; obtain ⟨Ao42, co42, eo42⟩ := Kd.R_slice HO523.out; subst eo42) | (go_at_call 19; (with_reducible refine (samphireref02_Same.calls kj2 _ _ t513 _ _ y521 true _ ?side1 ?side2 ?side3 ?side4 A24.out).mono ?_); (case side1 => exact RR HO515); (case side2 => exact (Kd.R_reads' HO515.out).2.1); (case side3 => exact RR HO523); (case side4 => exact (Kd.R_reads' HO523.out).2.1); rintro e w' ⟨rfl, ⟨nd, rfl⟩⟩; obtain ⟨Ao43, co43, eo43⟩ := Kd.R_slice HO519.out; subst eo43) | (go_at_call 19; (with_reducible refine (samphireref02_Same.calls kj2 _ _ t517 _ _ t495 true _ ?side1 ?side2 ?side3 ?side4 A26.out).mono ?_); (case side1 => exact RR HO519); (case side2 => exact (Kd.R_reads' HO519.out).2.1); (case side3 => exact RR HO497); (case side4 => exact (Kd.R_reads' HO497.out).2.1); rintro e w' ⟨rfl, ⟨nd, rfl⟩⟩) | (go_at_call 12; (with_reducible refine (samphirelaw02_awake.calls kj2  t526 _ A28.out).mono ?_); rintro e w44 ⟨rfl, hb⟩; have n0_ := Aside0.mk (Kd.R_below (RL HO497) hb); have n1_ := Aside0.mk (Kd.R_below (RL HO503) hb); have n2_ := Aside0.mk (Kd.R_below (RL HO505) hb); have n3_ := Aside0.mk (Kd.R_below (RL HO510) hb); have n4_ := Aside0.mk (Kd.R_below (RL HO512) hb); have n5_ := Aside0.mk (Kd.R_below (RL HO515) hb); have n6_ := Aside0.mk (Kd.R_below (RL HO519) hb); have n7_ := Aside0.mk (Kd.R_below (RL HO523) hb); have n8_ := Aside0.mk (below_step BL hb); clear HO497; clear HO503; clear HO505; clear HO510; clear HO512; clear HO515; clear HO519; clear HO523; clear HB; have HO497 := n0_; have HO503 := n1_; have HO505 := n2_; have HO510 := n3_; have HO512 := n4_; have HO515 := n5_; have HO519 := n6_; have HO523 := n7_; have HB := n8_; clear n0_ n1_ n2_ n3_ n4_ n5_ n6_ n7_ n8_; (try clear hb); (try clear hb2); (try clear hk); (try clear hi)))
            go_ret
            exact ⟨by first | rfl | (simp [errW_none, errW_some] <;> rfl) | (simp [*, errW_none, errW_some] <;> rfl), BL⟩
          · replace c27 := Bool.eq_false_iff.mpr c27
            subst c27
            have H1 : (none) = some r := by rw [if_neg (show ¬ (false = true) by decide)] at H; exact H
            clear H
            have H := H1
            clear H1
            cases H
        · replace c25 := Bool.eq_false_iff.mpr c25
          subst c25
          have H1 : (none) = some r := by rw [if_neg (show ¬ (false = true) by decide)] at H; exact H
          clear H
          have H := H1
          clear H1
          cases H

/-- THE ONE PURE STATEMENT of samphirelaw02_NatCommon: yours. -/
theorem samphirelaw02_NatCommon.walk (P : samphirelaw02_NatCommon.Pure) (a0 : Option Addr) (len0 cap0 : Nat) (z0 : List Int) (a1 : Option Addr) (len1 cap1 : Nat) (z1 : List Int) (w : World) (w0 : (a0 = none ∧ len0 = 0 ∧ cap0 = 0 ∧ z0 = []) ∨ ∃ x, a0 = some x ∧ len0 ≤ cap0 ∧ cap0 ≤ maxLen ∧ z0.length = cap0 ∧ (∀ i, i < z0.length → w.cell? (x.add i) = some (.int .u32 (z0.getD i 0))) ∧ ∀ n ∈ z0, (Lit.int .u32 n).wf = true) (y0 : len0 * 4 ≤ 140737488351232) (w1 : (a1 = none ∧ len1 = 0 ∧ cap1 = 0 ∧ z1 = []) ∨ ∃ x, a1 = some x ∧ len1 ≤ cap1 ∧ cap1 ≤ maxLen ∧ z1.length = cap1 ∧ (∀ i, i < z1.length → w.cell? (x.add i) = some (.int .u32 (z1.getD i 0))) ∧ ∀ n ∈ z1, (Lit.int .u32 n).wf = true) (y1 : len1 * 4 ≤ 140737488351232) :
    Calls Tryd.prog 4 #[.slice a0 len0 cap0, .slice a1 len1 cap1] w fun e w' => e = .returned (.bool true) ∧ Below w.heap.size w w' := by
  obtain ⟨l0, rfl, hr0, hm0, hw0, hc0⟩ := ReadsInt.ofRowC w0
  obtain ⟨l1, rfl, hr1, hm1, hw1, hc1⟩ := ReadsInt.ofRowC w1
  obtain ⟨k, h⟩ := P l0 l1 hm0 y0 hw0 hm1 y1 hw1
  refine (samphirelaw02_NatCommon.calls k _ _ l0 _ _ l1 true w (Kd.C_of_reads (d := (0 : Int)) (h1 := fun _ => rfl) hr0) hc0 (Kd.C_of_reads (d := (0 : Int)) (h1 := fun _ => rfl) hr1) hc1 h).mono ?_
  rintro e w' ⟨rfl, hd⟩
  exact ⟨rfl, hd⟩

end Go.Proofs.YtdgbeejhccogpaaDoor.P
