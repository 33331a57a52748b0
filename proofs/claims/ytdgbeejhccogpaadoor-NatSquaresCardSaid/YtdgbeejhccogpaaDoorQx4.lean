-- Printed by this session's own program out of the translation.
import Derived.Test.YtdgbeejhccogpaaDoorQx0
import Derived.Test.YtdgbeejhccogpaaDoorQx1
import Derived.Test.YtdgbeejhccogpaaDoorQx2
import Derived.Test.YtdgbeejhccogpaaDoorQx3
namespace Go.Proofs.YtdgbeejhccogpaaDoor.Q
open Go.RowKit Go.Proofs.YtdgbeejhccogpaaDoorW.PrintWords Go.Proofs.YtdgbeejhccogpaaDoorW.PrintLast Go.Proofs.YtdgbeejhccogpaaDoorW.PrintMore
attribute [local go_sem] max2_int min2_int max_two min_two max_three min_three max_four min_four   -- for this text's walks alone
set_option linter.unusedVariables false
set_option linter.unusedSimpArgs false

/-! ### samphirelaw02_NatSquares: function 9 -/
set_option maxHeartbeats 8000000 in
set_option maxRecDepth 100000 in
theorem samphirelaw02_NatSquares.calls (k : Nat) (A0 : Option Addr) (c0 : Nat) (l0 : List Int) (A1 : Option Addr) (c1 : Nat) (l1 : List Int) (r : Bool) (w : World) (hr0 : Kd.C (Kd.int .u32) w A0 l0.length l0) (hc0 : l0.length ≤ c0) (hr1 : Kd.C (Kd.int .u32) w A1 l1.length l1) (hc1 : l1.length ≤ c1) (h : samphirelaw02_NatSquares.f k l0 l1 = some r) :
    Calls Tryd.prog 9 #[.slice A0 l0.length c0, .slice A1 l1.length c1] w fun e w' => e = .returned (.bool r) ∧ Below w.heap.size w w' := by
  have HR0 := Aside0.mk hr0
  have HC0 := Aside0.mk hc0
  clear hr0 hc0
  have HR1 := Aside0.mk hr1
  have HC1 := Aside0.mk hc1
  clear hr1 hc1
  have HB := Aside0.mk (Below.refl w.heap.size w)
  have H : (if (l0.length : Int) > 30 then (samphirelaw02_NatSquares.j0 k l0 l1 true) else (if (l1.length : Int) > 30 then (samphirelaw02_NatSquares.j0 k l0 l1 true) else ((nat_Right.f l0).bind fun t363 => (if t363 = true then ((nat_Right.f l1).bind fun t364 => (samphirelaw02_NatSquares.j0 k l0 l1 (!t364))) else (samphirelaw02_NatSquares.j0 k l0 l1 true))))) = some r := h
  clear h
  have HC3 := Aside0.mk H
  clear H
  go_enter Tryd.func9, Tryd.ntmps9
  go_upto_region 1 with (fail)
  go_cut [34] (fun v34 wc => ∃ (kq : Nat) (x34_2 : Bool), v34 = .bool x34_2 ∧ Aside0 (samphirelaw02_NatSquares.j0 kq l0 l1 x34_2 = some r) ∧ Aside0 (kq ≤ k) ∧ Aside0 (Below w.heap.size w wc))
  case first =>
    have H := HC3.out
    clear HC3
    by_cases c4 : (l0.length : Int) > 30
    · rw [if_pos c4] at H
      have c4b0 : decide (30 < (l0.length : Int)) = true := decide_eq_true c4
      have c4b1 : decide (30 < l0.length) = true := decide_eq_true (by omega)
      clear c4
      (first | rw [c4b0] | (simp only [i64_w, i32_w]; rw [c4b0]) | skip)
      have H' := Aside0.mk H
      clear H
      go_wp2
      go_meet
      case rel => exact ⟨_, (true), (by first | rfl | (simp; done) | (simp [*]; done) | (simp; exact isEmpty_bne _)), H', ⟨by first | omega | exact Nat.le_refl _⟩, ⟨BL⟩⟩
    · rw [if_neg c4] at H
      have c4b0 : decide (30 < (l0.length : Int)) = false := decide_eq_false c4
      have c4b1 : decide (30 < l0.length) = false := decide_eq_false (by omega)
      clear c4
      (first | rw [c4b0] | (simp only [i64_w, i32_w]; rw [c4b0]) | skip)
      by_cases c5 : (l1.length : Int) > 30
      · rw [if_pos c5] at H
        have c5b0 : decide (30 < (l1.length : Int)) = true := decide_eq_true c5
        have c5b1 : decide (30 < l1.length) = true := decide_eq_true (by omega)
        clear c5
        have H' := Aside0.mk H
        clear H
        go_wp2
        go_meet
        case rel => exact ⟨_, (true), (by first | rfl | (simp; done) | (simp [*]; done) | (simp; exact isEmpty_bne _)), H', ⟨by first | omega | exact Nat.le_refl _⟩, ⟨BL⟩⟩
      · rw [if_neg c5] at H
        have c5b0 : decide (30 < (l1.length : Int)) = false := decide_eq_false c5
        have c5b1 : decide (30 < l1.length) = false := decide_eq_false (by omega)
        clear c5
        obtain ⟨t363, A6, H⟩ := bind_p H
        by_cases c7 : t363 = true
        · subst c7
          have H1 : ((nat_Right.f l1).bind fun t364 => (samphirelaw02_NatSquares.j0 k l0 l1 (!t364))) = some r := by rw [if_pos rfl] at H; exact H
          clear H
          have H := H1
          clear H1
          obtain ⟨t364, A8, H⟩ := bind_p H
          have H' := Aside0.mk H
          clear H
          go_wp2_with (first | (go_at_call 20; (with_reducible refine (nat_Right.calls _ _ l0 true _ ?side1 ?side2 A6.out).mono ?_); (case side1 => exact CB HR0); (case side2 => exact HC0.out); rintro e w' ⟨rfl, ⟨nd, rfl⟩⟩) | (go_at_call 20; (with_reducible refine (nat_Right.calls _ _ l1 t364 _ ?side1 ?side2 A8.out).mono ?_); (case side1 => repeat (first | exact (Kd.C_below HR1.out BL) | (with_reducible refine Kd.C_alloc ?_ _) | (with_reducible refine Kd.C_drewN ?_ _) | (with_reducible refine Kd.C_drew ?_))); (case side2 => exact HC1.out); rintro e w' ⟨rfl, ⟨nd, rfl⟩⟩))
          go_meet
          case rel => exact ⟨_, (!t364), (by first | rfl | (simp; done) | (simp [*]; done) | (simp; exact isEmpty_bne _)), H', ⟨by first | omega | exact Nat.le_refl _⟩, ⟨BL⟩⟩
        · replace c7 := Bool.eq_false_iff.mpr c7
          subst c7
          have H1 : (samphirelaw02_NatSquares.j0 k l0 l1 true) = some r := by rw [if_neg (show ¬ (false = true) by decide)] at H; exact H
          clear H
          have H := H1
          clear H1
          have H' := Aside0.mk H
          clear H
          go_wp2_with (first | (go_at_call 20; (with_reducible refine (nat_Right.calls _ _ l0 false _ ?side1 ?side2 A6.out).mono ?_); (case side1 => exact CB HR0); (case side2 => exact HC0.out); rintro e w' ⟨rfl, ⟨nd, rfl⟩⟩))
          go_meet
          case rel => exact ⟨_, (true), (by first | rfl | (simp; done) | (simp [*]; done) | (simp; exact isEmpty_bne _)), H', ⟨by first | omega | exact Nat.le_refl _⟩, ⟨BL⟩⟩
  case rest =>
    clear HC3
    try clear c1
    try clear p2
    try clear c4
    try clear c4b0
    try clear c4b1
    try clear c5
    try clear c5b0
    try clear c5b1
    try clear c7
    obtain ⟨kq, x34_2, rfl, HA, HJ2, HB⟩ := hcut
    cases kq with
    | zero => exact absurd HA.out (by simp [samphirelaw02_NatSquares.j0])
    | succ kj2 =>
      have H := HA.out
      clear HA
      simp only [samphirelaw02_NatSquares.j0] at H
      by_cases c9 : x34_2 = true
      · subst c9
        have H1 : ((samphirelaw02_awake.f kj2).bind fun t365 => (some t365)) = some r := by rw [if_pos rfl] at H; exact H
        clear H
        have H := H1
        clear H1
        obtain ⟨t365, A10, H⟩ := bind_p H
        obtain rfl := Option.some.inj H
        go_wp2_with (first | ((with_reducible refine gate_callee (f := 12) rfl ?_); refine goesL_ (some 35) rfl rfl Tryd.func12 (by kernel_rfl) rfl #[] rfl EQ ?_; (with_reducible refine (samphirelaw02_awake.calls kj2  t365 _ A10.out).mono ?_); rintro e w11 ⟨rfl, hb⟩; refine ⟨_, rfl, ?_⟩; have n0_ := Aside0.mk (below_step BL hb); clear HB; have HB := n0_; clear n0_; (try clear hb); (try clear hb2); (try clear hk); (try clear hi)))
        go_ret
        exact ⟨by first | rfl | (simp [errW_none, errW_some] <;> rfl) | (simp [*, errW_none, errW_some] <;> rfl), BL⟩
      · replace c9 := Bool.eq_false_iff.mpr c9
        subst c9
        have H1 : ((nat_Cmp.f kj2 l0 l1).bind fun t366 => (if t366 < 0 then ((nat_Mul.f kj2 l1 l1).bind fun bt367 => ((nat_Mul.f kj2 l0 l0).bind fun bt371 => ((nat_Sub.f kj2 bt367.1 bt371.1).bind fun bt375 => ((nat_Add.f kj2 l1 l0).bind fun bt379 => ((nat_Sub.f kj2 l1 l0).bind fun bt383 => ((nat_Mul.f kj2 bt379.1 bt383.1).bind fun bt387 => (if bt367.2 = 0 then (if bt371.2 = 0 then (if bt375.2 = 0 then (if bt379.2 = 0 then (if bt383.2 = 0 then (if bt387.2 = 0 then ((samphireref02_Same.f kj2 bt375.1 bt387.1).bind fun t391 => (if t391 = true then ((samphirelaw02_awake.f kj2).bind fun t392 => (some t392)) else (none))) else (none)) else (none)) else (none)) else (none)) else (none)) else (none)))))))) else ((nat_Mul.f kj2 l0 l0).bind fun bt393 => ((nat_Mul.f kj2 l1 l1).bind fun bt397 => ((nat_Sub.f kj2 bt393.1 bt397.1).bind fun bt401 => ((nat_Add.f kj2 l0 l1).bind fun bt405 => ((nat_Sub.f kj2 l0 l1).bind fun bt409 => ((nat_Mul.f kj2 bt405.1 bt409.1).bind fun bt413 => (if bt393.2 = 0 then (if bt397.2 = 0 then (if bt401.2 = 0 then (if bt405.2 = 0 then (if bt409.2 = 0 then (if bt413.2 = 0 then ((samphireref02_Same.f kj2 bt401.1 bt413.1).bind fun t417 => (if t417 = true then ((samphirelaw02_awake.f kj2).bind fun t418 => (some t418)) else (none))) else (none)) else (none)) else (none)) else (none)) else (none)) else (none)))))))))) = some r := by rw [if_neg (show ¬ (false = true) by decide)] at H; exact H
        clear H
        have H := H1
        clear H1
        obtain ⟨t366, A12, H⟩ := bind_p H
        by_cases c13 : t366 < 0
        · rw [if_pos c13] at H
          have c13b0 : decide (t366 < 0) = true := decide_eq_true c13
          clear c13
          obtain ⟨⟨t367, t368⟩, A14, H⟩ := bind_p H
          dsimp only at H
          obtain ⟨⟨t371, t372⟩, A15, H⟩ := bind_p H
          dsimp only at H
          obtain ⟨⟨t375, t376⟩, A16, H⟩ := bind_p H
          dsimp only at H
          obtain ⟨⟨t379, t380⟩, A17, H⟩ := bind_p H
          dsimp only at H
          obtain ⟨⟨t383, t384⟩, A18, H⟩ := bind_p H
          dsimp only at H
          obtain ⟨⟨t387, t388⟩, A19, H⟩ := bind_p H
          dsimp only at H
          obtain ⟨c20, H⟩ := ite_p H
          have c20b0 : (t368 == 0) = true := beq_iff_eq.mpr c20
          have c20b1 : (t368 != 0) = false := bne_eq_false_iff_eq.mpr c20
          clear c20
          obtain ⟨c21, H⟩ := ite_p H
          have c21b0 : (t372 == 0) = true := beq_iff_eq.mpr c21
          have c21b1 : (t372 != 0) = false := bne_eq_false_iff_eq.mpr c21
          clear c21
          obtain ⟨c22, H⟩ := ite_p H
          have c22b0 : (t376 == 0) = true := beq_iff_eq.mpr c22
          have c22b1 : (t376 != 0) = false := bne_eq_false_iff_eq.mpr c22
          clear c22
          obtain ⟨c23, H⟩ := ite_p H
          have c23b0 : (t380 == 0) = true := beq_iff_eq.mpr c23
          have c23b1 : (t380 != 0) = false := bne_eq_false_iff_eq.mpr c23
          clear c23
          obtain ⟨c24, H⟩ := ite_p H
          have c24b0 : (t384 == 0) = true := beq_iff_eq.mpr c24
          have c24b1 : (t384 != 0) = false := bne_eq_false_iff_eq.mpr c24
          clear c24
          obtain ⟨c25, H⟩ := ite_p H
          have c25b0 : (t388 == 0) = true := beq_iff_eq.mpr c25
          have c25b1 : (t388 != 0) = false := bne_eq_false_iff_eq.mpr c25
          clear c25
          obtain ⟨t391, A26, H⟩ := bind_p H
          by_cases c27 : t391 = true
          · subst c27
            have H1 : ((samphirelaw02_awake.f kj2).bind fun t392 => (some t392)) = some r := by rw [if_pos rfl] at H; exact H
            clear H
            have H := H1
            clear H1
            obtain ⟨t392, A28, H⟩ := bind_p H
            obtain rfl := Option.some.inj H
            go_wp2_with (first | ((with_reducible refine gate_callee (f := 33) rfl ?_); refine goesL_ (some 38) rfl rfl Tryd.func33 (by kernel_rfl) rfl #[.slice A0 l0.length c0, .slice A1 l1.length c1] rfl EQ ?_; (with_reducible refine (nat_Cmp.calls kj2 _ _ l0 _ _ l1 t366 _ ?side1 ?side2 ?side3 ?side4 A12.out).mono ?_); (case side1 => exact CB HR0); (case side2 => exact HC0.out); (case side3 => exact CB HR1); (case side4 => exact HC1.out); rintro e w29 ⟨rfl, hb⟩; refine ⟨_, rfl, ?_⟩; have n0_ := Aside0.mk (below_step BL hb); clear HB; have HB := n0_; clear n0_; (try clear hb); (try clear hb2); (try clear hk); (try clear hi)) | ((with_reducible refine gate_callee (f := 31) rfl ?_); refine goesL_ (some 45) rfl rfl Tryd.func31 (by kernel_rfl) rfl #[.slice A1 l1.length c1, .slice A1 l1.length c1] rfl EQ ?_; (with_reducible refine (nat_Mul.calls kj2 _ _ l1 _ _ l1 t367 t368 _ ?side1 ?side2 ?side3 ?side4 A14.out).mono ?_); (case side1 => exact CB HR1); (case side2 => exact HC1.out); (case side3 => exact CB HR1); (case side4 => exact HC1.out); rintro e w30 ⟨v369, rfl, ho0, hb⟩; refine ⟨_, rfl, ?_⟩; have n0_ := Aside0.mk (Kd.R_lower ho0 (below_size BL)); have n1_ := Aside0.mk (below_step BL hb); clear HB; have HO370 := n0_; have HB := n1_; clear n0_ n1_; (try clear hb); (try clear hb2); (try clear hk); (try clear hi); (try clear ho0)) | ((with_reducible refine gate_callee (f := 31) rfl ?_); refine goesL_ (some 51) rfl rfl Tryd.func31 (by kernel_rfl) rfl #[.slice A0 l0.length c0, .slice A0 l0.length c0] rfl EQ ?_; (with_reducible refine (nat_Mul.calls kj2 _ _ l0 _ _ l0 t371 t372 _ ?side1 ?side2 ?side3 ?side4 A15.out).mono ?_); (case side1 => exact CB HR0); (case side2 => exact HC0.out); (case side3 => exact CB HR0); (case side4 => exact HC0.out); rintro e w31 ⟨v373, rfl, ho0, hb⟩; refine ⟨_, rfl, ?_⟩; have n0_ := Aside0.mk (Kd.R_elder' (RL HO370) (Kd.R_base ho0) hb); have n1_ := Aside0.mk (Kd.R_lower (Kd.R_new' ho0 (Kd.R_lt (RL HO370))) (below_size BL)); have n2_ := Aside0.mk (below_step BL hb); clear HO370; clear HB; have HO370 := n0_; have HO374 := n1_; have HB := n2_; clear n0_ n1_ n2_; (try clear hb); (try clear hb2); (try clear hk); (try clear hi); (try clear ho0); obtain ⟨Ao32, co32, eo32⟩ := Kd.R_slice HO370.out; subst eo32; obtain ⟨Ao33, co33, eo33⟩ := Kd.R_slice HO374.out; subst eo33) | ((with_reducible refine gate_callee (f := 32) rfl ?_); refine goesL_ (some 57) rfl rfl Tryd.func32 (by kernel_rfl) rfl #[.slice Ao32 t367.length co32, .slice Ao33 t371.length co33] rfl EQ ?_; (with_reducible refine (nat_Sub.calls kj2 _ _ t367 _ _ t371 t375 t376 _ ?side1 ?side2 ?side3 ?side4 A16.out).mono ?_); (case side1 => exact RR HO370); (case side2 => exact (Kd.R_reads' HO370.out).2.1); (case side3 => exact RR HO374); (case side4 => exact (Kd.R_reads' HO374.out).2.1); rintro e w34 ⟨v377, rfl, ho0, hb⟩; refine ⟨_, rfl, ?_⟩; have n0_ := Aside0.mk (Kd.R_elder' (RL HO370) (Kd.R_base ho0) hb); have n1_ := Aside0.mk (Kd.R_elder' (RL HO374) (Kd.R_base ho0) hb); have n2_ := Aside0.mk (Kd.R_lower (Kd.R_new' (Kd.R_new' ho0 (Kd.R_lt (RL HO370))) (Kd.R_lt (RL HO374))) (below_size BL)); have n3_ := Aside0.mk (below_step BL hb); clear HO370; clear HO374; clear HB; have HO370 := n0_; have HO374 := n1_; have HO378 := n2_; have HB := n3_; clear n0_ n1_ n2_ n3_; (try clear hb); (try clear hb2); (try clear hk); (try clear hi); (try clear ho0)) | ((with_reducible refine gate_callee (f := 30) rfl ?_); refine goesL_ (some 63) rfl rfl Tryd.func30 (by kernel_rfl) rfl #[.slice A1 l1.length c1, .slice A0 l0.length c0] rfl EQ ?_; (with_reducible refine (nat_Add.calls kj2 _ _ l1 _ _ l0 t379 t380 _ ?side1 ?side2 ?side3 ?side4 A17.out).mono ?_); (case side1 => exact CB HR1); (case side2 => exact HC1.out); (case side3 => exact CB HR0); (case side4 => exact HC0.out); rintro e w35 ⟨v381, rfl, ho0, hb⟩; refine ⟨_, rfl, ?_⟩; have n0_ := Aside0.mk (Kd.R_elder' (RL HO370) (Kd.R_base ho0) hb); have n1_ := Aside0.mk (Kd.R_elder' (RL HO374) (Kd.R_base ho0) hb); have n2_ := Aside0.mk (Kd.R_elder' (RL HO378) (Kd.R_base ho0) hb); have n3_ := Aside0.mk (Kd.R_lower (Kd.R_new' (Kd.R_new' (Kd.R_new' ho0 (Kd.R_lt (RL HO370))) (Kd.R_lt (RL HO374))) (Kd.R_lt (RL HO378))) (below_size BL)); have n4_ := Aside0.mk (below_step BL hb); clear HO370; clear HO374; clear HO378; clear HB; have HO370 := n0_; have HO374 := n1_; have HO378 := n2_; have HO382 := n3_; have HB := n4_; clear n0_ n1_ n2_ n3_ n4_; (try clear hb); (try clear hb2); (try clear hk); (try clear hi); (try clear ho0)) | ((with_reducible refine gate_callee (f := 32) rfl ?_); refine goesL_ (some 69) rfl rfl Tryd.func32 (by kernel_rfl) rfl #[.slice A1 l1.length c1, .slice A0 l0.length c0] rfl EQ ?_; (with_reducible refine (nat_Sub.calls kj2 _ _ l1 _ _ l0 t383 t384 _ ?side1 ?side2 ?side3 ?side4 A18.out).mono ?_); (case side1 => exact CB HR1); (case side2 => exact HC1.out); (case side3 => exact CB HR0); (case side4 => exact HC0.out); rintro e w36 ⟨v385, rfl, ho0, hb⟩; refine ⟨_, rfl, ?_⟩; have n0_ := Aside0.mk (Kd.R_elder' (RL HO370) (Kd.R_base ho0) hb); have n1_ := Aside0.mk (Kd.R_elder' (RL HO374) (Kd.R_base ho0) hb); have n2_ := Aside0.mk (Kd.R_elder' (RL HO378) (Kd.R_base ho0) hb); have n3_ := Aside0.mk (Kd.R_elder' (RL HO382) (Kd.R_base ho0) hb); have n4_ := Aside0.mk (Kd.R_lower (Kd.R_new' (Kd.R_new' (Kd.R_new' (Kd.R_new' ho0 (Kd.R_lt (RL HO370))) (Kd.R_lt (RL HO374))) (Kd.R_lt (RL HO378))) (Kd.R_lt (RL HO382))) (below_size BL)); have n5_ := Aside0.mk (below_step BL hb); clear HO370; clear HO374; clear HO378; clear HO382; clear HB; have HO370 := n0_; have HO374 := n1_; have HO378 := n2_; have HO382 := n3_; have HO386 := n4_; have HB := n5_; clear n0_ n1_ n2_ n3_ n4_ n5_; (try clear hb); (try clear hb2); (try clear hk); (try clear hi); (try clear ho0); obtain ⟨Ao37, co37, eo37⟩ := Kd.R_slice HO382.out; subst eo37; obtain ⟨Ao38, co38, eo38⟩ := Kd.R_slice HO386.out; subst eo38) | ((with_reducible refine gate_callee (f := 31) rfl ?_); refine goesL_ (some 75) rfl rfl Tryd.func31 (by kernel_rfl) rfl #[.slice Ao37 t379.length co37, .slice Ao38 t383.length co38] rfl EQ ?_; (with_reducible refine (nat_Mul.calls kj2 _ _ t379 _ _ t383 t387 t388 _ ?side1 ?side2 ?side3 ?side4 A19.out).mono ?_); (case side1 => exact RR HO382); (case side2 => exact (Kd.R_reads' HO382.out).2.1); (case side3 => exact RR HO386); (case side4 => exact (Kd.R_reads' HO386.out).2.1); rintro e w39 ⟨v389, rfl, ho0, hb⟩; refine ⟨_, rfl, ?_⟩; have n0_ := Aside0.mk (Kd.R_elder' (RL HO370) (Kd.R_base ho0) hb); have n1_ := Aside0.mk (Kd.R_elder' (RL HO374) (Kd.R_base ho0) hb); have n2_ := Aside0.mk (Kd.R_elder' (RL HO378) (Kd.R_base ho0) hb); have n3_ := Aside0.mk (Kd.R_elder' (RL HO382) (Kd.R_base ho0) hb); have n4_ := Aside0.mk (Kd.R_elder' (RL HO386) (Kd.R_base ho0) hb); have n5_ := Aside0.mk (Kd.R_lower (Kd.R_new' (Kd.R_new' (Kd.R_new' (Kd.R_new' (Kd.R_new' ho0 (Kd.R_lt (RL HO370))) (Kd.R_lt (RL HO374))) (Kd.R_lt (RL HO378))) (Kd.R_lt (RL HO382))) (Kd.R_lt (RL HO386))) (below_size BL)); have n6_ := Aside0.mk (below_step BL hb); clear HO370; clear HO374; clear HO378; clear HO382; clear HO386; clear HB; have HO370 := n0_; have HO374 := n1_; have HO378 := n2_; have HO382 := n3_; have HO386 := n4_; have HO390 := n5_; have HB := n6_; clear n0_ n1_ n2_ n3_ n4_ n5_ n6_; (try clear hb); (try clear hb2); (try clear hk); (try clear hi); (try clear ho0); obtain ⟨Ao40, co40, eo40⟩ := Kd.R_slice HO378.out; subst eo40; obtain ⟨Ao41, co41, eo41⟩ := Kd.R_slice HO390.out; subst eo41) | (go_at_call 19; (with_reducible refine (samphireref02_Same.calls kj2 _ _ t375 _ _ t387 true _ ?side1 ?side2 ?side3 ?side4 A26.out).mono ?_); (case side1 => exact RR HO378); (case side2 => exact (Kd.R_reads' HO378.out).2.1); (case side3 => exact RR HO390); (case side4 => exact (Kd.R_reads' HO390.out).2.1); rintro e w' ⟨rfl, ⟨nd, rfl⟩⟩) | (go_at_call 12; (with_reducible refine (samphirelaw02_awake.calls kj2  t392 _ A28.out).mono ?_); rintro e w42 ⟨rfl, hb⟩; have n0_ := Aside0.mk (Kd.R_below (RL HO370) hb); have n1_ := Aside0.mk (Kd.R_below (RL HO374) hb); have n2_ := Aside0.mk (Kd.R_below (RL HO378) hb); have n3_ := Aside0.mk (Kd.R_below (RL HO382) hb); have n4_ := Aside0.mk (Kd.R_below (RL HO386) hb); have n5_ := Aside0.mk (Kd.R_below (RL HO390) hb); have n6_ := Aside0.mk (below_step BL hb); clear HO370; clear HO374; clear HO378; clear HO382; clear HO386; clear HO390; clear HB; have HO370 := n0_; have HO374 := n1_; have HO378 := n2_; have HO382 := n3_; have HO386 := n4_; have HO390 := n5_; have HB := n6_; clear n0_ n1_ n2_ n3_ n4_ n5_ n6_; (try clear hb); (try clear hb2); (try clear hk); (try clear hi)))
            go_ret
            exact ⟨by first | rfl | (simp [errW_none, errW_some] <;> rfl) | (simp [*, errW_none, errW_some] <;> rfl), BL⟩
          · replace c27 := Bool.eq_false_iff.mpr c27
            subst c27
            have H1 : (none) = some r := by rw [if_neg (show ¬ (false = true) by decide)] at H; exact H
            clear H
            have H := H1
            clear H1
            cases H
        · rw [if_neg c13] at H
          have c13b0 : decide (t366 < 0) = false := decide_eq_false c13
          clear c13
          obtain ⟨⟨t393, t394⟩, A43, H⟩ := bind_p H
          dsimp only at H
          obtain ⟨⟨t397, t398⟩, A44, H⟩ := bind_p H
          dsimp only at H
          obtain ⟨⟨t401, t402⟩, A45, H⟩ := bind_p H
          dsimp only at H
          obtain ⟨⟨t405, t406⟩, A46, H⟩ := bind_p H
          dsimp only at H
          obtain ⟨⟨t409, t410⟩, A47, H⟩ := bind_p H
          dsimp only at H
          obtain ⟨⟨t413, t414⟩, A48, H⟩ := bind_p H
          dsimp only at H
          obtain ⟨c49, H⟩ := ite_p H
          have c49b0 : (t394 == 0) = true := beq_iff_eq.mpr c49
          have c49b1 : (t394 != 0) = false := bne_eq_false_iff_eq.mpr c49
          clear c49
          obtain ⟨c50, H⟩ := ite_p H
          have c50b0 : (t398 == 0) = true := beq_iff_eq.mpr c50
          have c50b1 : (t398 != 0) = false := bne_eq_false_iff_eq.mpr c50
          clear c50
          obtain ⟨c51, H⟩ := ite_p H
          have c51b0 : (t402 == 0) = true := beq_iff_eq.mpr c51
          have c51b1 : (t402 != 0) = false := bne_eq_false_iff_eq.mpr c51
          clear c51
          obtain ⟨c52, H⟩ := ite_p H
          have c52b0 : (t406 == 0) = true := beq_iff_eq.mpr c52
          have c52b1 : (t406 != 0) = false := bne_eq_false_iff_eq.mpr c52
          clear c52
          obtain ⟨c53, H⟩ := ite_p H
          have c53b0 : (t410 == 0) = true := beq_iff_eq.mpr c53
          have c53b1 : (t410 != 0) = false := bne_eq_false_iff_eq.mpr c53
          clear c53
          obtain ⟨c54, H⟩ := ite_p H
          have c54b0 : (t414 == 0) = true := beq_iff_eq.mpr c54
          have c54b1 : (t414 != 0) = false := bne_eq_false_iff_eq.mpr c54
          clear c54
          obtain ⟨t417, A55, H⟩ := bind_p H
          by_cases c56 : t417 = true
          · subst c56
            have H1 : ((samphirelaw02_awake.f kj2).bind fun t418 => (some t418)) = some r := by rw [if_pos rfl] at H; exact H
            clear H
            have H := H1
            clear H1
            obtain ⟨t418, A57, H⟩ := bind_p H
            obtain rfl := Option.some.inj H
            go_wp2_with (first | ((with_reducible refine gate_callee (f := 33) rfl ?_); refine goesL_ (some 38) rfl rfl Tryd.func33 (by kernel_rfl) rfl #[.slice A0 l0.length c0, .slice A1 l1.length c1] rfl EQ ?_; (with_reducible refine (nat_Cmp.calls kj2 _ _ l0 _ _ l1 t366 _ ?side1 ?side2 ?side3 ?side4 A12.out).mono ?_); (case side1 => exact CB HR0); (case side2 => exact HC0.out); (case side3 => exact CB HR1); (case side4 => exact HC1.out); rintro e w58 ⟨rfl, hb⟩; refine ⟨_, rfl, ?_⟩; have n0_ := Aside0.mk (below_step BL hb); clear HB; have HB := n0_; clear n0_; (try clear hb); (try clear hb2); (try clear hk); (try clear hi)) | ((with_reducible refine gate_callee (f := 31) rfl ?_); refine goesL_ (some 45) rfl rfl Tryd.func31 (by kernel_rfl) rfl #[.slice A0 l0.length c0, .slice A0 l0.length c0] rfl EQ ?_; (with_reducible refine (nat_Mul.calls kj2 _ _ l0 _ _ l0 t393 t394 _ ?side1 ?side2 ?side3 ?side4 A43.out).mono ?_); (case side1 => exact CB HR0); (case side2 => exact HC0.out); (case side3 => exact CB HR0); (case side4 => exact HC0.out); rintro e w59 ⟨v395, rfl, ho0, hb⟩; refine ⟨_, rfl, ?_⟩; have n0_ := Aside0.mk (Kd.R_lower ho0 (below_size BL)); have n1_ := Aside0.mk (below_step BL hb); clear HB; have HO396 := n0_; have HB := n1_; clear n0_ n1_; (try clear hb); (try clear hb2); (try clear hk); (try clear hi); (try clear ho0)) | ((with_reducible refine gate_callee (f := 31) rfl ?_); refine goesL_ (some 51) rfl rfl Tryd.func31 (by kernel_rfl) rfl #[.slice A1 l1.length c1, .slice A1 l1.length c1] rfl EQ ?_; (with_reducible refine (nat_Mul.calls kj2 _ _ l1 _ _ l1 t397 t398 _ ?side1 ?side2 ?side3 ?side4 A44.out).mono ?_); (case side1 => exact CB HR1); (case side2 => exact HC1.out); (case side3 => exact CB HR1); (case side4 => exact HC1.out); rintro e w60 ⟨v399, rfl, ho0, hb⟩; refine ⟨_, rfl, ?_⟩; have n0_ := Aside0.mk (Kd.R_elder' (RL HO396) (Kd.R_base ho0) hb); have n1_ := Aside0.mk (Kd.R_lower (Kd.R_new' ho0 (Kd.R_lt (RL HO396))) (below_size BL)); have n2_ := Aside0.mk (below_step BL hb); clear HO396; clear HB; have HO396 := n0_; have HO400 := n1_; have HB := n2_; clear n0_ n1_ n2_; (try clear hb); (try clear hb2); (try clear hk); (try clear hi); (try clear ho0); obtain ⟨Ao61, co61, eo61⟩ := Kd.R_slice HO396.out; subst eo61; obtain ⟨Ao62, co62, eo62⟩ := Kd.R_slice HO400.out; subst eo62) | ((with_reducible refine gate_callee (f := 32) rfl ?_); refine goesL_ (some 57) rfl rfl Tryd.func32 (by kernel_rfl) rfl #[.slice Ao61 t393.length co61, .slice Ao62 t397.length co62] rfl EQ ?_; (with_reducible refine (nat_Sub.calls kj2 _ _ t393 _ _ t397 t401 t402 _ ?side1 ?side2 ?side3 ?side4 A45.out).mono ?_); (case side1 => exact RR HO396); (case side2 => exact (Kd.R_reads' HO396.out).2.1); (case side3 => exact RR HO400); (case side4 => exact (Kd.R_reads' HO400.out).2.1); rintro e w63 ⟨v403, rfl, ho0, hb⟩; refine ⟨_, rfl, ?_⟩; have n0_ := Aside0.mk (Kd.R_elder' (RL HO396) (Kd.R_base ho0) hb); have n1_ := Aside0.mk (Kd.R_elder' (RL HO400) (Kd.R_base ho0) hb); have n2_ := Aside0.mk (Kd.R_lower (Kd.R_new' (Kd.R_new' ho0 (Kd.R_lt (RL HO396))) (Kd.R_lt (RL HO400))) (below_size BL)); have n3_ := Aside0.mk (below_step BL hb); clear HO396; clear HO400; clear HB; have HO396 := n0_; have HO400 := n1_; have HO404 := n2_; have HB := n3_; clear n0_ n1_ n2_ n3_; (try clear hb); (try clear hb2); (try clear hk); (try clear hi); (try clear ho0)) | ((with_reducible refine gate_callee (f := 30) rfl ?_); refine goesL_ (some 63) rfl rfl Tryd.func30 (by kernel_rfl) rfl #[.slice A0 l0.length c0, .slice A1 l1.length c1] rfl EQ ?_; (with_reducible refine (nat_Add.calls kj2 _ _ l0 _ _ l1 t405 t406 _ ?side1 ?side2 ?side3 ?side4 A46.out).mono ?_); (case side1 => exact CB HR0); (case side2 => exact HC0.out); (case side3 => exact CB HR1); (case side4 => exact HC1.out); rintro e w64 ⟨v407, rfl, ho0, hb⟩; refine ⟨_, rfl, ?_⟩; have n0_ := Aside0.mk (Kd.R_elder' (RL HO396) (Kd.R_base ho0) hb); have n1_ := Aside0.mk (Kd.R_elder' (RL HO400) (Kd.R_base ho0) hb); have n2_ := Aside0.mk (Kd.R_elder' (RL HO404) (Kd.R_base ho0) hb); have n3_ := Aside0.mk (Kd.R_lower (Kd.R_new' (Kd.R_new' (Kd.R_new' ho0 (Kd.R_lt (RL HO396))) (Kd.R_lt (RL HO400))) (Kd.R_lt (RL HO404))) (below_size BL)); have n4_ := Aside0.mk (below_step BL hb); clear HO396; clear HO400; clear HO404; clear HB; have HO396 := n0_; have HO400 := n1_; have HO404 := n2_; have HO408 := n3_; have HB := n4_; clear n0_ n1_ n2_ n3_ n4_; (try clear hb); (try clear hb2); (try clear hk); (try clear hi); (try clear ho0)) | ((with_reducible refine gate_callee (f := 32) rfl ?_); refine goesL_ (some 69) rfl rfl Tryd.func32 (by kernel_rfl) rfl #[.slice A0 l0.length c0, .slice A1 l1.length c1] rfl EQ ?_; (with_reducible refine (nat_Sub.calls kj2 _ _ l0 _ _ l1 t409 t410 _ ?side1 ?side2 ?side3 ?side4 A47.out).mono ?_); (case side1 => exact CB HR0); (case side2 => exact HC0.out); (case side3 => exact CB HR1); (case side4 => exact HC1.out); rintro e w65 ⟨v411, rfl, ho0, hb⟩; refine ⟨_, rfl, ?_⟩; have n0_ := Aside0.mk (Kd.R_elder' (RL HO396) (Kd.R_base ho0) hb); have n1_ := Aside0.mk (Kd.R_elder' (RL HO400) (Kd.R_base ho0) hb); have n2_ := Aside0.mk (Kd.R_elder' (RL HO404) (Kd.R_base ho0) hb); have n3_ := Aside0.mk (Kd.R_elder' (RL HO408) (Kd.R_base ho0) hb); have n4_ := Aside0.mk (Kd.R_lower (Kd.R_new' (Kd.R_new' (Kd.R_new' (Kd.R_new' ho0 (Kd.R_lt (RL HO396))) (Kd.R_lt (RL HO400))) (Kd.R_lt (RL HO404))) (Kd.R_lt (RL HO408))) (below_size BL)); have n5_ := Aside0.mk (below_step BL hb); clear HO396; clear HO400; clear HO404; clear HO408; clear HB; have HO396 := n0_; have HO400 := n1_; have HO404 := n2_; have HO408 := n3_; have HO412 := n4_; have HB := n5_; clear n0_ n1_ n2_ n3_ n4_ n5_; (try clear hb); (try clear hb2); (try clear hk); (try clear hi); (try clear ho0); obtain ⟨Ao66, co66, eo66⟩ := Kd.R_slice HO408.out; subst eo66; obtain ⟨Ao67, co67, eo67⟩ := Kd.R_slice HO412.out; subst eo67) | ((with_reducible refine gate_callee (f := 31) rfl ?_); refine goesL_ (some 75) rfl rfl Tryd.func31 (by kernel_rfl) rfl #[.slice Ao66 t405.length co66, .slice Ao67 t409.length co67] rfl EQ ?_; (with_reducible refine (nat_Mul.calls kj2 _ _ t405 _ _ t409 t413 t414 _ ?side1 ?side2 ?side3 ?side4 A48.out).mono ?_); (case side1 => exact RR HO408); (case side2 => exact (Kd.R_reads' HO408.out).2.1); (case side3 => exact RR HO412); (case side4 => exact (Kd.R_reads' HO412.out).2.1); rintro e w68 ⟨v415, rfl, ho0, hb⟩; refine ⟨_, rfl, ?_⟩; have n0_ := Aside0.mk (Kd.R_elder' (RL HO396) (Kd.R_base ho0) hb); have n1_ := Aside0.mk (Kd.R_elder' (RL HO400) (Kd.R_base ho0) hb); have n2_ := Aside0.mk (Kd.R_elder' (RL HO404) (Kd.R_base ho0) hb); have n3_ := Aside0.mk (Kd.R_elder' (RL HO408) (Kd.R_base ho0) hb); have n4_ := Aside0.mk (Kd.R_elder' (RL HO412) (Kd.R_base ho0) hb); have n5_ := Aside0.mk (Kd.R_lower (Kd.R_new' (Kd.R_new' (Kd.R_new' (Kd.R_new' (Kd.R_new' ho0 (Kd.R_lt (RL HO396))) (Kd.R_lt (RL HO400))) (Kd.R_lt (RL HO404))) (Kd.R_lt (RL HO408))) (Kd.R_lt (RL HO412))) (below_size BL)); have n6_ := Aside0.mk (below_step BL hb); clear HO396; clear HO400; clear HO404; clear HO408; clear HO412; clear HB; have HO396 := n0_; have HO400 := n1_; have HO404 := n2_; have HO408 := n3_; have HO412 := n4_; have HO416 := n5_; have HB := n6_; clear n0_ n1_ n2_ n3_ n4_ n5_ n6_; (try clear hb); (try clear hb2); (try clear hk); (try clear hi); (try clear ho0); obtain ⟨Ao69, co69, eo69⟩ := Kd.R_slice HO404.out; subst eo69; obtain ⟨Ao70, co70, eo70⟩ := Kd.R_slice HO416.out; subst eo70) | (go_at_call 19; (with_reducible refine (samphireref02_Same.calls kj2 _ _ t401 _ _ t413 true _ ?side1 ?side2 ?side3 ?side4 A55.out).mono ?_); (case side1 => exact RR HO404); (case side2 => exact (Kd.R_reads' HO404.out).2.1); (case side3 => exact RR HO416); (case side4 => exact (Kd.R_reads' HO416.out).2.1); rintro e w' ⟨rfl, ⟨nd, rfl⟩⟩) | (go_at_call 12; (with_reducible refine (samphirelaw02_awake.calls kj2  t418 _ A57.out).mono ?_); rintro e w71 ⟨rfl, hb⟩; have n0_ := Aside0.mk (Kd.R_below (RL HO396) hb); have n1_ := Aside0.mk (Kd.R_below (RL HO400) hb); have n2_ := Aside0.mk (Kd.R_below (RL HO404) hb); have n3_ := Aside0.mk (Kd.R_below (RL HO408) hb); have n4_ := Aside0.mk (Kd.R_below (RL HO412) hb); have n5_ := Aside0.mk (Kd.R_below (RL HO416) hb); have n6_ := Aside0.mk (below_step BL hb); clear HO396; clear HO400; clear HO404; clear HO408; clear HO412; clear HO416; clear HB; have HO396 := n0_; have HO400 := n1_; have HO404 := n2_; have HO408 := n3_; have HO412 := n4_; have HO416 := n5_; have HB := n6_; clear n0_ n1_ n2_ n3_ n4_ n5_ n6_; (try clear hb); (try clear hb2); (try clear hk); (try clear hi)))
            go_ret
            exact ⟨by first | rfl | (simp [errW_none, errW_some] <;> rfl) | (simp [*, errW_none, errW_some] <;> rfl), BL⟩
          · replace c56 := Bool.eq_false_iff.mpr c56
            subst c56
            have H1 : (none) = some r := by rw [if_neg (show ¬ (false = true) by decide)] at H; exact H
            clear H
            have H := H1
            clear H1
            cases H

/-- THE ONE PURE STATEMENT of samphirelaw02_NatSquares: yours. -/
theorem samphirelaw02_NatSquares.walk (P : samphirelaw02_NatSquares.Pure) (a0 : Option Addr) (len0 cap0 : Nat) (z0 : List Int) (a1 : Option Addr) (len1 cap1 : Nat) (z1 : List Int) (w : World) (w0 : (a0 = none ∧ len0 = 0 ∧ cap0 = 0 ∧ z0 = []) ∨ ∃ x, a0 = some x ∧ len0 ≤ cap0 ∧ cap0 ≤ maxLen ∧ z0.length = cap0 ∧ (∀ i, i < z0.length → w.cell? (x.add i) = some (.int .u32 (z0.getD i 0))) ∧ ∀ n ∈ z0, (Lit.int .u32 n).wf = true) (y0 : len0 * 4 ≤ 140737488351232) (w1 : (a1 = none ∧ len1 = 0 ∧ cap1 = 0 ∧ z1 = []) ∨ ∃ x, a1 = some x ∧ len1 ≤ cap1 ∧ cap1 ≤ maxLen ∧ z1.length = cap1 ∧ (∀ i, i < z1.length → w.cell? (x.add i) = some (.int .u32 (z1.getD i 0))) ∧ ∀ n ∈ z1, (Lit.int .u32 n).wf = true) (y1 : len1 * 4 ≤ 140737488351232) :
    Calls Tryd.prog 9 #[.slice a0 len0 cap0, .slice a1 len1 cap1] w fun e w' => e = .returned (.bool true) ∧ Below w.heap.size w w' := by
  obtain ⟨l0, rfl, hr0, hm0, hw0, hc0⟩ := ReadsInt.ofRowC w0
  obtain ⟨l1, rfl, hr1, hm1, hw1, hc1⟩ := ReadsInt.ofRowC w1
  obtain ⟨k, h⟩ := P l0 l1 hm0 y0 hw0 hm1 y1 hw1
  refine (samphirelaw02_NatSquares.calls k _ _ l0 _ _ l1 true w (Kd.C_of_reads (d := (0 : Int)) (h1 := fun _ => rfl) hr0) hc0 (Kd.C_of_reads (d := (0 : Int)) (h1 := fun _ => rfl) hr1) hc1 h).mono ?_
  rintro e w' ⟨rfl, hd⟩
  exact ⟨rfl, hd⟩

end Go.Proofs.YtdgbeejhccogpaaDoor.Q
