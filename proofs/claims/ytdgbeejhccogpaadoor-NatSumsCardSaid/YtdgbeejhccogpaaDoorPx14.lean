-- Printed by this session's own program out of the translation.
import Derived.Test.YtdgbeejhccogpaaDoorPx0
import Derived.Test.YtdgbeejhccogpaaDoorPx1
import Derived.Test.YtdgbeejhccogpaaDoorPx3
import Derived.Test.YtdgbeejhccogpaaDoorPx4
import Derived.Test.YtdgbeejhccogpaaDoorPx5
import Derived.Test.YtdgbeejhccogpaaDoorPx6
import Derived.Test.YtdgbeejhccogpaaDoorPx7
namespace Go.Proofs.YtdgbeejhccogpaaDoor.P
open Go.RowKit Go.Proofs.YtdgbeejhccogpaaDoorW.PrintWords Go.Proofs.YtdgbeejhccogpaaDoorW.PrintLast Go.Proofs.YtdgbeejhccogpaaDoorW.PrintMore
attribute [local go_sem] max2_int min2_int max_two min_two max_three min_three max_four min_four   -- for this text's walks alone
set_option linter.unusedVariables false
set_option linter.unusedSimpArgs false

/-! ### samphirelaw02_NatSums: function 6 -/
set_option maxHeartbeats 8000000 in
set_option maxRecDepth 100000 in
theorem samphirelaw02_NatSums.calls (k : Nat) (A0 : Option Addr) (c0 : Nat) (l0 : List Int) (A1 : Option Addr) (c1 : Nat) (l1 : List Int) (r : Bool) (w : World) (hr0 : Kd.C (Kd.int .u32) w A0 l0.length l0) (hc0 : l0.length ≤ c0) (hr1 : Kd.C (Kd.int .u32) w A1 l1.length l1) (hc1 : l1.length ≤ c1) (h : samphirelaw02_NatSums.f k l0 l1 = some r) :
    Calls Tryd.prog 6 #[.slice A0 l0.length c0, .slice A1 l1.length c1] w fun e w' => e = .returned (.bool r) ∧ Below w.heap.size w w' := by
  have HR0 := Aside0.mk hr0
  have HC0 := Aside0.mk hc0
  clear hr0 hc0
  have HR1 := Aside0.mk hr1
  have HC1 := Aside0.mk hc1
  clear hr1 hc1
  have HB := Aside0.mk (Below.refl w.heap.size w)
  have H : ((samphireref02_Small.f l0).bind fun t644 => (if t644 = true then ((samphireref02_Small.f l1).bind fun t645 => (samphirelaw02_NatSums.j0 k l0 l1 (!t645))) else (samphirelaw02_NatSums.j0 k l0 l1 true))) = some r := h
  clear h
  have HC3 := Aside0.mk H
  clear H
  go_enter Tryd.func6, Tryd.ntmps6
  go_upto_region 1 with (fail)
  go_cut [20] (fun v20 wc => ∃ (kq : Nat) (x20_2 : Bool), v20 = .bool x20_2 ∧ Aside0 (samphirelaw02_NatSums.j0 kq l0 l1 x20_2 = some r) ∧ Aside0 (kq ≤ k) ∧ Aside0 (Below w.heap.size w wc))
  case first =>
    have H := HC3.out
    clear HC3
    obtain ⟨t644, A4, H⟩ := bind_p H
    by_cases c5 : t644 = true
    · subst c5
      have H1 : ((samphireref02_Small.f l1).bind fun t645 => (samphirelaw02_NatSums.j0 k l0 l1 (!t645))) = some r := by rw [if_pos rfl] at H; exact H
      clear H
      have H := H1
      clear H1
      obtain ⟨t645, A6, H⟩ := bind_p H
      have H' := Aside0.mk H
      clear H
      go_wp2_with (first | ((with_reducible refine gate_callee (f := 11) rfl ?_); refine goesL_ (some 14) rfl rfl Tryd.func11 (by kernel_rfl) rfl #[.slice A0 l0.length c0] rfl EQ ?_; (with_reducible refine (samphireref02_Small.calls _ _ l0 true _ ?side1 ?side2 A4.out).mono ?_); (case side1 => exact CB HR0); (case side2 => exact HC0.out); rintro e w' ⟨rfl, ⟨nd, rfl⟩⟩; refine ⟨_, rfl, ?_⟩) | (go_at_call 11; (with_reducible refine (samphireref02_Small.calls _ _ l1 t645 _ ?side1 ?side2 A6.out).mono ?_); (case side1 => repeat (first | exact (Kd.C_below HR1.out BL) | (with_reducible refine Kd.C_alloc ?_ _) | (with_reducible refine Kd.C_drewN ?_ _) | (with_reducible refine Kd.C_drew ?_))); (case side2 => exact HC1.out); rintro e w' ⟨rfl, ⟨nd, rfl⟩⟩))
      go_meet
      case rel => exact ⟨_, (!t645), (by first | rfl | (simp; done) | (simp [*]; done) | (simp; exact isEmpty_bne _)), H', ⟨by first | omega | exact Nat.le_refl _⟩, ⟨BL⟩⟩
    · replace c5 := Bool.eq_false_iff.mpr c5
      subst c5
      have H1 : (samphirelaw02_NatSums.j0 k l0 l1 true) = some r := by rw [if_neg (show ¬ (false = true) by decide)] at H; exact H
      clear H
      have H := H1
      clear H1
      have H' := Aside0.mk H
      clear H
      go_wp2_with (first | ((with_reducible refine gate_callee (f := 11) rfl ?_); refine goesL_ (some 14) rfl rfl Tryd.func11 (by kernel_rfl) rfl #[.slice A0 l0.length c0] rfl EQ ?_; (with_reducible refine (samphireref02_Small.calls _ _ l0 false _ ?side1 ?side2 A4.out).mono ?_); (case side1 => exact CB HR0); (case side2 => exact HC0.out); rintro e w' ⟨rfl, ⟨nd, rfl⟩⟩; refine ⟨_, rfl, ?_⟩))
      go_meet
      case rel => exact ⟨_, (true), (by first | rfl | (simp; done) | (simp [*]; done) | (simp; exact isEmpty_bne _)), H', ⟨by first | omega | exact Nat.le_refl _⟩, ⟨BL⟩⟩
  case rest =>
    clear HC3
    try clear c1
    try clear p2
    try clear c5
    try clear c6
    obtain ⟨kq, x20_2, rfl, HA, HJ2, HB⟩ := hcut
    cases kq with
    | zero => exact absurd HA.out (by simp [samphirelaw02_NatSums.j0])
    | succ kj2 =>
      have H := HA.out
      clear HA
      simp only [samphirelaw02_NatSums.j0] at H
      by_cases c7 : x20_2 = true
      · subst c7
        have H1 : ((samphirelaw02_awake.f kj2).bind fun t646 => (some t646)) = some r := by rw [if_pos rfl] at H; exact H
        clear H
        have H := H1
        clear H1
        obtain ⟨t646, A8, H⟩ := bind_p H
        obtain rfl := Option.some.inj H
        go_wp2_with (first | ((with_reducible refine gate_callee (f := 12) rfl ?_); refine goesL_ (some 21) rfl rfl Tryd.func12 (by kernel_rfl) rfl #[] rfl EQ ?_; (with_reducible refine (samphirelaw02_awake.calls kj2  t646 _ A8.out).mono ?_); rintro e w9 ⟨rfl, hb⟩; refine ⟨_, rfl, ?_⟩; have n0_ := Aside0.mk (below_step BL hb); clear HB; have HB := n0_; clear n0_; (try clear hb); (try clear hb2); (try clear hk); (try clear hi)))
        go_ret
        exact ⟨by first | rfl | (simp [errW_none, errW_some] <;> rfl) | (simp [*, errW_none, errW_some] <;> rfl), BL⟩
      · replace c7 := Bool.eq_false_iff.mpr c7
        subst c7
        have H1 : ((samphireref02_Right.f l0).bind fun t647 => (if t647 = true then ((samphireref02_Right.f l1).bind fun t648 => (samphirelaw02_NatSums.j1 kj2 l0 l1 t648)) else (samphirelaw02_NatSums.j1 kj2 l0 l1 false))) = some r := by rw [if_neg (show ¬ (false = true) by decide)] at H; exact H
        clear H
        have H := H1
        clear H1
        have HC10 := Aside0.mk H
        clear H
        go_upto_region 3 with (fail)
        go_cut [5] (fun v5 wc => ∃ (kq : Nat) (x5_9 : Bool), v5 = .bool x5_9 ∧ Aside0 (samphirelaw02_NatSums.j1 kq l0 l1 x5_9 = some r) ∧ Aside0 (kq ≤ kj2) ∧ Aside0 (Below w.heap.size w wc))
        case first =>
          have H := HC10.out
          clear HC10
          obtain ⟨t647, A11, H⟩ := bind_p H
          by_cases c12 : t647 = true
          · subst c12
            have H1 : ((samphireref02_Right.f l1).bind fun t648 => (samphirelaw02_NatSums.j1 kj2 l0 l1 t648)) = some r := by rw [if_pos rfl] at H; exact H
            clear H
            have H := H1
            clear H1
            obtain ⟨t648, A13, H⟩ := bind_p H
            have H' := Aside0.mk H
            clear H
            go_wp2_with (first | ((with_reducible refine gate_callee (f := 15) rfl ?_); refine goesL_ (some 23) rfl rfl Tryd.func15 (by kernel_rfl) rfl #[.slice A0 l0.length c0] rfl EQ ?_; (with_reducible refine (samphireref02_Right.calls _ _ l0 true _ ?side1 ?side2 A11.out).mono ?_); (case side1 => exact CB HR0); (case side2 => exact HC0.out); rintro e w' ⟨rfl, ⟨nd, rfl⟩⟩; refine ⟨_, rfl, ?_⟩) | (go_at_call 15; (with_reducible refine (samphireref02_Right.calls _ _ l1 t648 _ ?side1 ?side2 A13.out).mono ?_); (case side1 => repeat (first | exact (Kd.C_below HR1.out BL) | (with_reducible refine Kd.C_alloc ?_ _) | (with_reducible refine Kd.C_drewN ?_ _) | (with_reducible refine Kd.C_drew ?_))); (case side2 => exact HC1.out); rintro e w' ⟨rfl, ⟨nd, rfl⟩⟩))
            go_meet
            case rel => exact ⟨_, (t648), (by first | rfl | (simp; done) | (simp [*]; done) | (simp; exact isEmpty_bne _)), H', ⟨by have := HJ2.out; first | omega | exact Nat.le_refl _⟩, ⟨BL⟩⟩
          · replace c12 := Bool.eq_false_iff.mpr c12
            subst c12
            have H1 : (samphirelaw02_NatSums.j1 kj2 l0 l1 false) = some r := by rw [if_neg (show ¬ (false = true) by decide)] at H; exact H
            clear H
            have H := H1
            clear H1
            have H' := Aside0.mk H
            clear H
            go_wp2_with (first | ((with_reducible refine gate_callee (f := 15) rfl ?_); refine goesL_ (some 23) rfl rfl Tryd.func15 (by kernel_rfl) rfl #[.slice A0 l0.length c0] rfl EQ ?_; (with_reducible refine (samphireref02_Right.calls _ _ l0 false _ ?side1 ?side2 A11.out).mono ?_); (case side1 => exact CB HR0); (case side2 => exact HC0.out); rintro e w' ⟨rfl, ⟨nd, rfl⟩⟩; refine ⟨_, rfl, ?_⟩))
            go_meet
            case rel => exact ⟨_, (false), (by first | rfl | (simp; done) | (simp [*]; done) | (simp; exact isEmpty_bne _)), H', ⟨by have := HJ2.out; first | omega | exact Nat.le_refl _⟩, ⟨BL⟩⟩
        case rest =>
          clear HC10
          try clear c1
          try clear p2
          try clear c5
          try clear c6
          try clear c7
          try clear c11
          try clear c12
          try clear p2
          obtain ⟨kq, x5_9, rfl, HA, HJ9, HB⟩ := hcut
          cases kq with
          | zero => exact absurd HA.out (by simp [samphirelaw02_NatSums.j1])
          | succ kj9 =>
            have H := HA.out
            clear HA
            simp only [samphirelaw02_NatSums.j1] at H
            obtain ⟨t649, A14, H⟩ := bind_p H
            obtain ⟨t650, A15, H⟩ := bind_p H
            obtain ⟨c16, H⟩ := ite_n H
            have c16b0 : (t649 != t650) = false := by simpa using c16
            (try (have c16b1 : decide (t649 = t650) = true := by simpa using c16))
            (try (have c16b2 : (t649 == t650) = true := by simpa using c16))
            clear c16
            obtain ⟨⟨t651, t652⟩, A17, H⟩ := bind_p H
            dsimp only at H
            obtain ⟨⟨t655, t656⟩, A18, H⟩ := bind_p H
            dsimp only at H
            obtain ⟨⟨t659, t660⟩, A19, H⟩ := bind_p H
            dsimp only at H
            by_cases c20 : x5_9 = true
            · subst c20
              have H1 : ((samphireref02_Cmp.f kj9 l0 l1).bind fun t668 => (if t668 < 0 then (if (t659.length : Int) = 0 then (if t660 = 1 then (if t668 ≥ 0 then ((samphireref02_Sub.f kj9 l0 l1).bind fun t669 => ((samphirelaw02_told.f kj9 t659 t660 true t669).bind fun t672 => (samphirelaw02_NatSums.j2 kj9 l0 l1 t651 t652 t655 t656 t668 (!t672)))) else (samphirelaw02_NatSums.j2 kj9 l0 l1 t651 t652 t655 t656 t668 false)) else (none)) else (none)) else (if t668 ≥ 0 then ((samphireref02_Sub.f kj9 l0 l1).bind fun t673 => ((samphirelaw02_told.f kj9 t659 t660 true t673).bind fun t676 => (samphirelaw02_NatSums.j2 kj9 l0 l1 t651 t652 t655 t656 t668 (!t676)))) else (samphirelaw02_NatSums.j2 kj9 l0 l1 t651 t652 t655 t656 t668 false)))) = some r := by rw [if_pos rfl] at H; exact H
              clear H
              have H := H1
              clear H1
              obtain ⟨t668, A21, H⟩ := bind_p H
              have HC22 := Aside0.mk H
              clear H
              go_upto_region 12 with (first | ((with_reducible refine gate_callee (f := 20) rfl ?_); refine goesL_ (some 29) rfl rfl Tryd.func20 (by kernel_rfl) rfl #[.slice A0 l0.length c0] rfl EQ ?_; (with_reducible refine (nat_Right.calls _ _ l0 t649 _ ?side1 ?side2 A14.out).mono ?_); (case side1 => exact CB HR0); (case side2 => exact HC0.out); rintro e w' ⟨rfl, ⟨nd, rfl⟩⟩; refine ⟨_, rfl, ?_⟩) | ((with_reducible refine gate_callee (f := 15) rfl ?_); refine goesL_ (some 31) rfl rfl Tryd.func15 (by kernel_rfl) rfl #[.slice A0 l0.length c0] rfl EQ ?_; (with_reducible refine (samphireref02_Right.calls _ _ l0 t650 _ ?side1 ?side2 A15.out).mono ?_); (case side1 => repeat (first | exact (Kd.C_below HR0.out BL) | (with_reducible refine Kd.C_alloc ?_ _) | (with_reducible refine Kd.C_drewN ?_ _) | (with_reducible refine Kd.C_drew ?_))); (case side2 => exact HC0.out); rintro e w' ⟨rfl, ⟨nd, rfl⟩⟩; refine ⟨_, rfl, ?_⟩) | ((with_reducible refine gate_callee (f := 30) rfl ?_); refine goesL_ (some 36) rfl rfl Tryd.func30 (by kernel_rfl) rfl #[.slice A0 l0.length c0, .slice A1 l1.length c1] rfl EQ ?_; (with_reducible refine (nat_Add.calls kj9 _ _ l0 _ _ l1 t651 t652 _ ?side1 ?side2 ?side3 ?side4 A17.out).mono ?_); (case side1 => repeat (first | exact (Kd.C_below HR0.out BL) | (with_reducible refine Kd.C_alloc ?_ _) | (with_reducible refine Kd.C_drewN ?_ _) | (with_reducible refine Kd.C_drew ?_))); (case side2 => exact HC0.out); (case side3 => repeat (first | exact (Kd.C_below HR1.out BL) | (with_reducible refine Kd.C_alloc ?_ _) | (with_reducible refine Kd.C_drewN ?_ _) | (with_reducible refine Kd.C_drew ?_))); (case side4 => exact HC1.out); rintro e w23 ⟨v653, rfl, ho0, hb⟩; refine ⟨_, rfl, ?_⟩; have n0_ := Aside0.mk (Kd.R_lower ho0 (below_size BL)); have n1_ := Aside0.mk (below_step BL hb); clear HB; have HO654 := n0_; have HB := n1_; clear n0_ n1_; (try clear hb); (try clear hb2); (try clear hk); (try clear hi); (try clear ho0)) | ((with_reducible refine gate_callee (f := 31) rfl ?_); refine goesL_ (some 42) rfl rfl Tryd.func31 (by kernel_rfl) rfl #[.slice A0 l0.length c0, .slice A1 l1.length c1] rfl EQ ?_; (with_reducible refine (nat_Mul.calls kj9 _ _ l0 _ _ l1 t655 t656 _ ?side1 ?side2 ?side3 ?side4 A18.out).mono ?_); (case side1 => exact CB HR0); (case side2 => exact HC0.out); (case side3 => exact CB HR1); (case side4 => exact HC1.out); rintro e w24 ⟨v657, rfl, ho0, hb⟩; refine ⟨_, rfl, ?_⟩; have n0_ := Aside0.mk (Kd.R_elder' (RL HO654) (Kd.R_base ho0) hb); have n1_ := Aside0.mk (Kd.R_lower (Kd.R_new' ho0 (Kd.R_lt (RL HO654))) (below_size BL)); have n2_ := Aside0.mk (below_step BL hb); clear HO654; clear HB; have HO654 := n0_; have HO658 := n1_; have HB := n2_; clear n0_ n1_ n2_; (try clear hb); (try clear hb2); (try clear hk); (try clear hi); (try clear ho0)) | ((with_reducible refine gate_callee (f := 32) rfl ?_); refine goesL_ (some 48) rfl rfl Tryd.func32 (by kernel_rfl) rfl #[.slice A0 l0.length c0, .slice A1 l1.length c1] rfl EQ ?_; (with_reducible refine (nat_Sub.calls kj9 _ _ l0 _ _ l1 t659 t660 _ ?side1 ?side2 ?side3 ?side4 A19.out).mono ?_); (case side1 => exact CB HR0); (case side2 => exact HC0.out); (case side3 => exact CB HR1); (case side4 => exact HC1.out); rintro e w25 ⟨v661, rfl, ho0, hb⟩; refine ⟨_, rfl, ?_⟩; have n0_ := Aside0.mk (Kd.R_elder' (RL HO654) (Kd.R_base ho0) hb); have n1_ := Aside0.mk (Kd.R_elder' (RL HO658) (Kd.R_base ho0) hb); have n2_ := Aside0.mk (Kd.R_lower (Kd.R_new' (Kd.R_new' ho0 (Kd.R_lt (RL HO654))) (Kd.R_lt (RL HO658))) (below_size BL)); have n3_ := Aside0.mk (below_step BL hb); clear HO654; clear HO658; clear HB; have HO654 := n0_; have HO658 := n1_; have HO662 := n2_; have HB := n3_; clear n0_ n1_ n2_ n3_; (try clear hb); (try clear hb2); (try clear hk); (try clear hi); (try clear ho0)) | ((with_reducible refine gate_callee (f := 34) rfl ?_); refine goesL_ (some 77) rfl rfl Tryd.func34 (by kernel_rfl) rfl #[.slice A0 l0.length c0, .slice A1 l1.length c1] rfl EQ ?_; (with_reducible refine (samphireref02_Cmp.calls kj9 _ _ l0 _ _ l1 t668 _ ?side1 ?side2 ?side3 ?side4 A21.out).mono ?_); (case side1 => exact CB HR0); (case side2 => exact HC0.out); (case side3 => exact CB HR1); (case side4 => exact HC1.out); rintro e w' ⟨rfl, ⟨nd, rfl⟩⟩; refine ⟨_, rfl, ?_⟩))
              (try simp only [Act.put, List.setIfInBounds_toArray, List.set_cons_zero, List.set_cons_succ])
              go_cut [101] (fun v101 wc => ∃ (kq : Nat) (x101_21 : Bool), v101 = .bool x101_21 ∧ Aside0 (samphirelaw02_NatSums.j2 kq l0 l1 t651 t652 t655 t656 t668 x101_21 = some r) ∧ Aside0 (kq ≤ kj9) ∧ Aside0 (Kd.R (Kd.int .u32) 36 wc w.heap.size (fun k_ => some k_ ≠ (v657 : Value).ownBlock) v653 t651) ∧ Aside0 (Kd.R (Kd.int .u32) 36 wc w.heap.size (fun k_ => some k_ ≠ (v653 : Value).ownBlock) v657 t655) ∧ Aside0 (Below w.heap.size w wc))
              case first =>
                have H := HC22.out
                clear HC22
                by_cases c26 : t668 < 0
                · rw [if_pos c26] at H
                  have c26b0 : decide (t668 < 0) = true := decide_eq_true c26
                  clear c26
                  (first | rw [c26b0] | (simp only [i64_w, i32_w]; rw [c26b0]) | skip)
                  obtain ⟨c27, H⟩ := ite_p H
                  have c27b0 : ((t659.length : Int) == 0) = true := beq_iff_eq.mpr c27
                  have c27b1 : ((t659.length : Int) != 0) = false := bne_eq_false_iff_eq.mpr c27
                  clear c27
                  obtain ⟨c28, H⟩ := ite_p H
                  have c28b0 : (t660 == 1) = true := beq_iff_eq.mpr c28
                  have c28b1 : (t660 != 1) = false := bne_eq_false_iff_eq.mpr c28
                  clear c28
                  by_cases c29 : t668 ≥ 0
                  · rw [if_pos c29] at H
                    have c29b0 : decide (0 ≤ t668) = true := decide_eq_true c29
                    clear c29
                    obtain ⟨t669, A30, H⟩ := bind_p H
                    obtain ⟨t672, A31, H⟩ := bind_p H
                    have H' := Aside0.mk H
                    clear H
                    obtain ⟨Ao32, co32, eo32⟩ := Kd.R_slice HO662.out
                    subst eo32
                    go_wp2_with (first | (go_at_call 35; (with_reducible refine (samphireref02_Sub.calls kj9 _ _ l0 _ _ l1 t669 _ ?side1 ?side2 ?side3 ?side4 A30.out).mono ?_); (case side1 => exact CB HR0); (case side2 => exact HC0.out); (case side3 => exact CB HR1); (case side4 => exact HC1.out); rintro e w33 ⟨v670, rfl, ho0, hb⟩; have n0_ := Aside0.mk (Kd.R_elder' (RL HO654) (Kd.R_base ho0) hb); have n1_ := Aside0.mk (Kd.R_elder' (RL HO658) (Kd.R_base ho0) hb); have n2_ := Aside0.mk (Kd.R_elder' (RL HO662) (Kd.R_base ho0) hb); have n3_ := Aside0.mk (Kd.R_lower (Kd.R_new' (Kd.R_new' (Kd.R_new' ho0 (Kd.R_lt (RL HO654))) (Kd.R_lt (RL HO658))) (Kd.R_lt (RL HO662))) (below_size BL)); have n4_ := Aside0.mk (below_step BL hb); clear HO654; clear HO658; clear HO662; clear HB; have HO654 := n0_; have HO658 := n1_; have HO662 := n2_; have HO671 := n3_; have HB := n4_; clear n0_ n1_ n2_ n3_ n4_; (try clear hb); (try clear hb2); (try clear hk); (try clear hi); (try clear ho0); obtain ⟨Ao34, co34, eo34⟩ := Kd.R_slice HO671.out; subst eo34) | (go_at_call 16; (with_reducible refine (samphirelaw02_told.calls kj9 _ _ t659 t660 true _ _ t669 t672 _ ?side1 ?side2 ?side3 ?side4 A31.out).mono ?_); (case side1 => exact RR HO662); (case side2 => exact (Kd.R_reads' HO662.out).2.1); (case side3 => exact RR HO671); (case side4 => exact (Kd.R_reads' HO671.out).2.1); rintro e w' ⟨rfl, ⟨nd, rfl⟩⟩))
                    go_meet
                    case rel => exact ⟨_, (!t672), (by first | rfl | (simp; done) | (simp [*]; done) | (simp; exact isEmpty_bne _)), H', ⟨by have := HJ2.out; have := HJ9.out; first | omega | exact Nat.le_refl _⟩, ⟨by (with_reducible repeat (first | apply Kd.R_alloc | apply Kd.R_drewN | apply Kd.R_drew)); exact Kd.R_mono HO654.out (fun _ hk => hk.1.1.2)⟩, ⟨by (with_reducible repeat (first | apply Kd.R_alloc | apply Kd.R_drewN | apply Kd.R_drew)); exact Kd.R_mono HO658.out (fun _ hk => hk.1.1.2)⟩, ⟨BL⟩⟩
                  · rw [if_neg c29] at H
                    have c29b0 : decide (0 ≤ t668) = false := decide_eq_false c29
                    clear c29
                    have H' := Aside0.mk H
                    clear H
                    obtain ⟨Ao35, co35, eo35⟩ := Kd.R_slice HO662.out
                    subst eo35
                    go_wp2
                    go_meet
                    case rel => exact ⟨_, (false), (by first | rfl | (simp; done) | (simp [*]; done) | (simp; exact isEmpty_bne _)), H', ⟨by have := HJ2.out; have := HJ9.out; first | omega | exact Nat.le_refl _⟩, ⟨by (with_reducible repeat (first | apply Kd.R_alloc | apply Kd.R_drewN | apply Kd.R_drew)); exact Kd.R_mono HO654.out (fun _ hk => hk.1.2)⟩, ⟨by (with_reducible repeat (first | apply Kd.R_alloc | apply Kd.R_drewN | apply Kd.R_drew)); exact Kd.R_mono HO658.out (fun _ hk => hk.1.2)⟩, ⟨BL⟩⟩
                · rw [if_neg c26] at H
                  have c26b0 : decide (t668 < 0) = false := decide_eq_false c26
                  clear c26
                  (first | rw [c26b0] | (simp only [i64_w, i32_w]; rw [c26b0]) | skip)
                  by_cases c36 : t668 ≥ 0
                  · rw [if_pos c36] at H
                    have c36b0 : decide (0 ≤ t668) = true := decide_eq_true c36
                    clear c36
                    obtain ⟨t673, A37, H⟩ := bind_p H
                    obtain ⟨t676, A38, H⟩ := bind_p H
                    have H' := Aside0.mk H
                    clear H
                    go_wp2_with (first | (go_at_call 35; (with_reducible refine (samphireref02_Sub.calls kj9 _ _ l0 _ _ l1 t673 _ ?side1 ?side2 ?side3 ?side4 A37.out).mono ?_); (case side1 => exact CB HR0); (case side2 => exact HC0.out); (case side3 => exact CB HR1); (case side4 => exact HC1.out); rintro e w39 ⟨v674, rfl, ho0, hb⟩; have n0_ := Aside0.mk (Kd.R_elder' (RL HO654) (Kd.R_base ho0) hb); have n1_ := Aside0.mk (Kd.R_elder' (RL HO658) (Kd.R_base ho0) hb); have n2_ := Aside0.mk (Kd.R_elder' (RL HO662) (Kd.R_base ho0) hb); have n3_ := Aside0.mk (Kd.R_lower (Kd.R_new' (Kd.R_new' (Kd.R_new' ho0 (Kd.R_lt (RL HO654))) (Kd.R_lt (RL HO658))) (Kd.R_lt (RL HO662))) (below_size BL)); have n4_ := Aside0.mk (below_step BL hb); clear HO654; clear HO658; clear HO662; clear HB; have HO654 := n0_; have HO658 := n1_; have HO662 := n2_; have HO675 := n3_; have HB := n4_; clear n0_ n1_ n2_ n3_ n4_; (try clear hb); (try clear hb2); (try clear hk); (try clear hi); (try clear ho0); obtain ⟨Ao40, co40, eo40⟩ := Kd.R_slice HO662.out; subst eo40; obtain ⟨Ao41, co41, eo41⟩ := Kd.R_slice HO675.out; subst eo41) | (go_at_call 16; (with_reducible refine (samphirelaw02_told.calls kj9 _ _ t659 t660 true _ _ t673 t676 _ ?side1 ?side2 ?side3 ?side4 A38.out).mono ?_); (case side1 => exact RR HO662); (case side2 => exact (Kd.R_reads' HO662.out).2.1); (case side3 => exact RR HO675); (case side4 => exact (Kd.R_reads' HO675.out).2.1); rintro e w' ⟨rfl, ⟨nd, rfl⟩⟩))
                    go_meet
                    case rel => exact ⟨_, (!t676), (by first | rfl | (simp; done) | (simp [*]; done) | (simp; exact isEmpty_bne _)), H', ⟨by have := HJ2.out; have := HJ9.out; first | omega | exact Nat.le_refl _⟩, ⟨by (with_reducible repeat (first | apply Kd.R_alloc | apply Kd.R_drewN | apply Kd.R_drew)); exact Kd.R_mono HO654.out (fun _ hk => hk.1.1.2)⟩, ⟨by (with_reducible repeat (first | apply Kd.R_alloc | apply Kd.R_drewN | apply Kd.R_drew)); exact Kd.R_mono HO658.out (fun _ hk => hk.1.1.2)⟩, ⟨BL⟩⟩
                  · rw [if_neg c36] at H
                    have c36b0 : decide (0 ≤ t668) = false := decide_eq_false c36
                    clear c36
                    have H' := Aside0.mk H
                    clear H
                    go_wp2
                    go_meet
                    case rel => exact ⟨_, (false), (by first | rfl | (simp; done) | (simp [*]; done) | (simp; exact isEmpty_bne _)), H', ⟨by have := HJ2.out; have := HJ9.out; first | omega | exact Nat.le_refl _⟩, ⟨by (with_reducible repeat (first | apply Kd.R_alloc | apply Kd.R_drewN | apply Kd.R_drew)); exact Kd.R_mono HO654.out (fun _ hk => hk.1.2)⟩, ⟨by (with_reducible repeat (first | apply Kd.R_alloc | apply Kd.R_drewN | apply Kd.R_drew)); exact Kd.R_mono HO658.out (fun _ hk => hk.1.2)⟩, ⟨BL⟩⟩
              case rest =>
                clear HC22
                try clear c1
                try clear c2
                try clear p2
                try clear c3
                try clear c5
                try clear c6
                try clear c7
                try clear c11
                try clear c12
                try clear c15
                try clear c16
                try clear c16b0
                try clear c16b1
                try clear c16b2
                try clear c20
                try clear c26
                try clear c26b0
                try clear c27
                try clear c27b0
                try clear c27b1
                try clear c28
                try clear c28b0
                try clear c28b1
                try clear c29
                try clear c29b0
                try clear c30
                try clear c31
                try clear c32
                try clear c34
                try clear c36
                try clear c36b0
                try clear p2
                obtain ⟨kq, x101_21, rfl, HA, HJ21, HO_6, HO_8, HB⟩ := hcut
                cases kq with
                | zero => exact absurd HA.out (by simp [samphirelaw02_NatSums.j2])
                | succ kj21 =>
                  have H := HA.out
                  clear HA
                  simp only [samphirelaw02_NatSums.j2] at H
                  by_cases c42 : x101_21 = true
                  · subst c42
                    have H1 : (none) = some r := by rw [if_pos rfl] at H; exact H
                    clear H
                    have H := H1
                    clear H1
                    cases H
                  · replace c42 := Bool.eq_false_iff.mpr c42
                    subst c42
                    have H1 : ((samphireref02_Add.f kj21 l0 l1).bind fun t677 => ((samphirelaw02_told.f kj21 t651 t652 true t677).bind fun t680 => (if t680 = true then ((samphireref02_Mul.f kj21 l0 l1).bind fun t681 => ((samphirelaw02_told.f kj21 t655 t656 true t681).bind fun t684 => (if t684 = true then ((nat_Cmp.f kj21 l0 l1).bind fun t685 => (if t685 = t668 then ((nat_Bits.f l0).bind fun t686 => ((samphireref02_Bits.f kj21 l0).bind fun t687 => (if t686 = t687 then ((samphirelaw02_awake.f kj21).bind fun t688 => (some t688)) else (none)))) else (none))) else (none)))) else (none)))) = some r := by rw [if_neg (show ¬ (false = true) by decide)] at H; exact H
                    clear H
                    have H := H1
                    clear H1
                    obtain ⟨t677, A43, H⟩ := bind_p H
                    obtain ⟨t680, A44, H⟩ := bind_p H
                    by_cases c45 : t680 = true
                    · subst c45
                      have H1 : ((samphireref02_Mul.f kj21 l0 l1).bind fun t681 => ((samphirelaw02_told.f kj21 t655 t656 true t681).bind fun t684 => (if t684 = true then ((nat_Cmp.f kj21 l0 l1).bind fun t685 => (if t685 = t668 then ((nat_Bits.f l0).bind fun t686 => ((samphireref02_Bits.f kj21 l0).bind fun t687 => (if t686 = t687 then ((samphirelaw02_awake.f kj21).bind fun t688 => (some t688)) else (none)))) else (none))) else (none)))) = some r := by rw [if_pos rfl] at H; exact H
                      clear H
                      have H := H1
                      clear H1
                      obtain ⟨t681, A46, H⟩ := bind_p H
                      obtain ⟨t684, A47, H⟩ := bind_p H
                      by_cases c48 : t684 = true
                      · subst c48
                        have H1 : ((nat_Cmp.f kj21 l0 l1).bind fun t685 => (if t685 = t668 then ((nat_Bits.f l0).bind fun t686 => ((samphireref02_Bits.f kj21 l0).bind fun t687 => (if t686 = t687 then ((samphirelaw02_awake.f kj21).bind fun t688 => (some t688)) else (none)))) else (none))) = some r := by rw [if_pos rfl] at H; exact H
                        clear H
                        have H := H1
                        clear H1
                        obtain ⟨t685, A49, H⟩ := bind_p H
                        obtain ⟨c50, H⟩ := ite_p H
                        have c50b0 : (t685 == t668) = true := beq_iff_eq.mpr c50
                        have c50b1 : (t685 != t668) = false := bne_eq_false_iff_eq.mpr c50
                        clear c50
                        obtain ⟨t686, A51, H⟩ := bind_p H
                        obtain ⟨t687, A52, H⟩ := bind_p H
                        obtain ⟨c53, H⟩ := ite_p H
                        have c53b0 : (t686 == t687) = true := beq_iff_eq.mpr c53
                        have c53b1 : (t686 != t687) = false := bne_eq_false_iff_eq.mpr c53
                        clear c53
                        obtain ⟨t688, A54, H⟩ := bind_p H
                        obtain rfl := Option.some.inj H
                        go_wp2_with (first | ((with_reducible refine gate_callee (f := 24) rfl ?_); refine goesL_ (some 106) rfl rfl Tryd.func24 (by kernel_rfl) rfl #[.slice A0 l0.length c0, .slice A1 l1.length c1] rfl EQ ?_; (with_reducible refine (samphireref02_Add.calls kj21 _ _ l0 _ _ l1 t677 _ ?side1 ?side2 ?side3 ?side4 A43.out).mono ?_); (case side1 => exact CB HR0); (case side2 => exact HC0.out); (case side3 => exact CB HR1); (case side4 => exact HC1.out); rintro e w55 ⟨v678, rfl, ho0, hb⟩; refine ⟨_, rfl, ?_⟩; have n0_ := Aside0.mk (Kd.R_elder' (RL HO_6) (Kd.R_base ho0) hb); have n1_ := Aside0.mk (Kd.R_elder' (RL HO_8) (Kd.R_base ho0) hb); have n2_ := Aside0.mk (Kd.R_lower (Kd.R_new' (Kd.R_new' ho0 (Kd.R_lt (RL HO_6))) (Kd.R_lt (RL HO_8))) (below_size BL)); have n3_ := Aside0.mk (below_step BL hb); clear HO_6; clear HO_8; clear HB; have HO_6 := n0_; have HO_8 := n1_; have HO679 := n2_; have HB := n3_; clear n0_ n1_ n2_ n3_; (try clear hb); (try clear hb2); (try clear hk); (try clear hi); (try clear ho0); obtain ⟨Ao56, co56, eo56⟩ := Kd.R_slice HO_6.out; subst eo56; obtain ⟨Ao57, co57, eo57⟩ := Kd.R_slice HO679.out; subst eo57) | ((with_reducible refine gate_callee (f := 16) rfl ?_); refine goesL_ (some 107) rfl rfl Tryd.func16 (by kernel_rfl) rfl #[.slice Ao56 t651.length co56, .int .i64 t652, .bool true, .slice Ao57 t677.length co57] rfl EQ ?_; (with_reducible refine (samphirelaw02_told.calls kj21 _ _ t651 t652 true _ _ t677 true _ ?side1 ?side2 ?side3 ?side4 A44.out).mono ?_); (case side1 => exact RR HO_6); (case side2 => exact (Kd.R_reads' HO_6.out).2.1); (case side3 => exact RR HO679); (case side4 => exact (Kd.R_reads' HO679.out).2.1); rintro e w' ⟨rfl, ⟨nd, rfl⟩⟩; refine ⟨_, rfl, ?_⟩) | (go_at_call 26; (with_reducible refine (samphireref02_Mul.calls kj21 _ _ l0 _ _ l1 t681 _ ?side1 ?side2 ?side3 ?side4 A46.out).mono ?_); (case side1 => repeat (first | exact (Kd.C_below HR0.out BL) | (with_reducible refine Kd.C_alloc ?_ _) | (with_reducible refine Kd.C_drewN ?_ _) | (with_reducible refine Kd.C_drew ?_))); (case side2 => exact HC0.out); (case side3 => repeat (first | exact (Kd.C_below HR1.out BL) | (with_reducible refine Kd.C_alloc ?_ _) | (with_reducible refine Kd.C_drewN ?_ _) | (with_reducible refine Kd.C_drew ?_))); (case side4 => exact HC1.out); rintro e w58 ⟨v682, rfl, ho0, hb⟩; have n0_ := Aside0.mk (Kd.R_elder' (RL HO_6) (Kd.R_base ho0) hb); have n1_ := Aside0.mk (Kd.R_elder' (RL HO_8) (Kd.R_base ho0) hb); have n2_ := Aside0.mk (Kd.R_elder' (RL HO679) (Kd.R_base ho0) hb); have n3_ := Aside0.mk (Kd.R_lower (Kd.R_new' (Kd.R_new' (Kd.R_new' ho0 (Kd.R_lt (RL HO_6))) (Kd.R_lt (RL HO_8))) (Kd.R_lt (RL HO679))) (below_size BL)); have n4_ := Aside0.mk (below_step BL hb); clear HO_6; clear HO_8; clear HO679; clear HB; have HO_6 := n0_; have HO_8 := n1_; have HO679 := n2_; have HO683 := n3_; have HB := n4_; clear n0_ n1_ n2_ n3_ n4_; (try clear hb); (try clear hb2); (try clear hk); (try clear hi); (try clear ho0); obtain ⟨Ao59, co59, eo59⟩ := Kd.R_slice HO_8.out; subst eo59; obtain ⟨Ao60, co60, eo60⟩ := Kd.R_slice HO683.out; subst eo60) | (go_at_call 16; (with_reducible refine (samphirelaw02_told.calls kj21 _ _ t655 t656 true _ _ t681 true _ ?side1 ?side2 ?side3 ?side4 A47.out).mono ?_); (case side1 => exact RR HO_8); (case side2 => exact (Kd.R_reads' HO_8.out).2.1); (case side3 => exact RR HO683); (case side4 => exact (Kd.R_reads' HO683.out).2.1); rintro e w' ⟨rfl, ⟨nd, rfl⟩⟩) | (go_at_call 33; (with_reducible refine (nat_Cmp.calls kj21 _ _ l0 _ _ l1 t685 _ ?side1 ?side2 ?side3 ?side4 A49.out).mono ?_); (case side1 => repeat (first | exact (Kd.C_below HR0.out BL) | (with_reducible refine Kd.C_alloc ?_ _) | (with_reducible refine Kd.C_drewN ?_ _) | (with_reducible refine Kd.C_drew ?_))); (case side2 => exact HC0.out); (case side3 => repeat (first | exact (Kd.C_below HR1.out BL) | (with_reducible refine Kd.C_alloc ?_ _) | (with_reducible refine Kd.C_drewN ?_ _) | (with_reducible refine Kd.C_drew ?_))); (case side4 => exact HC1.out); rintro e w61 ⟨rfl, hb⟩; have n0_ := Aside0.mk (Kd.R_below (RL HO_6) hb); have n1_ := Aside0.mk (Kd.R_below (RL HO_8) hb); have n2_ := Aside0.mk (Kd.R_below (RL HO679) hb); have n3_ := Aside0.mk (Kd.R_below (RL HO683) hb); have n4_ := Aside0.mk (below_step BL hb); clear HO_6; clear HO_8; clear HO679; clear HO683; clear HB; have HO_6 := n0_; have HO_8 := n1_; have HO679 := n2_; have HO683 := n3_; have HB := n4_; clear n0_ n1_ n2_ n3_ n4_; (try clear hb); (try clear hb2); (try clear hk); (try clear hi)) | (go_at_call 36; (with_reducible refine (nat_Bits.calls _ _ l0 t686 _ ?side1 ?side2 A51.out).mono ?_); (case side1 => exact CB HR0); (case side2 => exact HC0.out); rintro e w' ⟨rfl, ⟨nd, rfl⟩⟩) | (go_at_call 37; (with_reducible refine (samphireref02_Bits.calls kj21 _ _ l0 t687 _ ?side1 ?side2 A52.out).mono ?_); (case side1 => repeat (first | exact (Kd.C_below HR0.out BL) | (with_reducible refine Kd.C_alloc ?_ _) | (with_reducible refine Kd.C_drewN ?_ _) | (with_reducible refine Kd.C_drew ?_))); (case side2 => exact HC0.out); rintro e w' ⟨rfl, ⟨nd, rfl⟩⟩) | (go_at_call 12; (with_reducible refine (samphirelaw02_awake.calls kj21  t688 _ A54.out).mono ?_); rintro e w62 ⟨rfl, hb⟩; have n0_ := Aside0.mk (Kd.R_below (RL HO_6) hb); have n1_ := Aside0.mk (Kd.R_below (RL HO_8) hb); have n2_ := Aside0.mk (Kd.R_below (RL HO679) hb); have n3_ := Aside0.mk (Kd.R_below (RL HO683) hb); have n4_ := Aside0.mk (below_step BL hb); clear HO_6; clear HO_8; clear HO679; clear HO683; clear HB; have HO_6 := n0_; have HO_8 := n1_; have HO679 := n2_; have HO683 := n3_; have HB := n4_; clear n0_ n1_ n2_ n3_ n4_; (try clear hb); (try clear hb2); (try clear hk); (try clear hi)))
                        go_ret
                        exact ⟨by first | rfl | (simp [errW_none, errW_some] <;> rfl) | (simp [*, errW_none, errW_some] <;> rfl), BL⟩
                      · replace c48 := Bool.eq_false_iff.mpr c48
                        subst c48
                        have H1 : (none) = some r := by rw [if_neg (show ¬ (false = true) by decide)] at H; exact H
                        clear H
                        have H := H1
                        clear H1
                        cases H
                    · replace c45 := Bool.eq_false_iff.mpr c45
                      subst c45
                      have H1 : (none) = some r := by rw [if_neg (show ¬ (false = true) by decide)] at H; exact H
                      clear H
                      have H := H1
                      clear H1
                      cases H
            · replace c20 := Bool.eq_false_iff.mpr c20
              subst c20
              have H1 : ((samphirelaw02_told.f kj9 t651 t652 false ([] : List Int)).bind fun t663 => (if t663 = true then ((samphirelaw02_told.f kj9 t655 t656 false ([] : List Int)).bind fun t664 => (if t664 = true then ((samphirelaw02_told.f kj9 t659 t660 false ([] : List Int)).bind fun t665 => (if t665 = true then ((nat_Cmp.f kj9 l0 l1).bind fun t666 => (if t666 = 0 then ((samphirelaw02_awake.f kj9).bind fun t667 => (some t667)) else (none))) else (none))) else (none))) else (none))) = some r := by rw [if_neg (show ¬ (false = true) by decide)] at H; exact H
              clear H
              have H := H1
              clear H1
              obtain ⟨t663, A63, H⟩ := bind_p H
              by_cases c64 : t663 = true
              · subst c64
                have H1 : ((samphirelaw02_told.f kj9 t655 t656 false ([] : List Int)).bind fun t664 => (if t664 = true then ((samphirelaw02_told.f kj9 t659 t660 false ([] : List Int)).bind fun t665 => (if t665 = true then ((nat_Cmp.f kj9 l0 l1).bind fun t666 => (if t666 = 0 then ((samphirelaw02_awake.f kj9).bind fun t667 => (some t667)) else (none))) else (none))) else (none))) = some r := by rw [if_pos rfl] at H; exact H
                clear H
                have H := H1
                clear H1
                obtain ⟨t664, A65, H⟩ := bind_p H
                by_cases c66 : t664 = true
                · subst c66
                  have H1 : ((samphirelaw02_told.f kj9 t659 t660 false ([] : List Int)).bind fun t665 => (if t665 = true then ((nat_Cmp.f kj9 l0 l1).bind fun t666 => (if t666 = 0 then ((samphirelaw02_awake.f kj9).bind fun t667 => (some t667)) else (none))) else (none))) = some r := by rw [if_pos rfl] at H; exact H
                  clear H
                  have H := H1
                  clear H1
                  obtain ⟨t665, A67, H⟩ := bind_p H
                  by_cases c68 : t665 = true
                  · subst c68
                    have H1 : ((nat_Cmp.f kj9 l0 l1).bind fun t666 => (if t666 = 0 then ((samphirelaw02_awake.f kj9).bind fun t667 => (some t667)) else (none))) = some r := by rw [if_pos rfl] at H; exact H
                    clear H
                    have H := H1
                    clear H1
                    obtain ⟨t666, A69, H⟩ := bind_p H
                    obtain ⟨c70, H⟩ := ite_p H
                    have c70b0 : (t666 == 0) = true := beq_iff_eq.mpr c70
                    have c70b1 : (t666 != 0) = false := bne_eq_false_iff_eq.mpr c70
                    clear c70
                    obtain ⟨t667, A71, H⟩ := bind_p H
                    obtain rfl := Option.some.inj H
                    go_wp2_with (first | ((with_reducible refine gate_callee (f := 20) rfl ?_); refine goesL_ (some 29) rfl rfl Tryd.func20 (by kernel_rfl) rfl #[.slice A0 l0.length c0] rfl EQ ?_; (with_reducible refine (nat_Right.calls _ _ l0 t649 _ ?side1 ?side2 A14.out).mono ?_); (case side1 => exact CB HR0); (case side2 => exact HC0.out); rintro e w' ⟨rfl, ⟨nd, rfl⟩⟩; refine ⟨_, rfl, ?_⟩) | ((with_reducible refine gate_callee (f := 15) rfl ?_); refine goesL_ (some 31) rfl rfl Tryd.func15 (by kernel_rfl) rfl #[.slice A0 l0.length c0] rfl EQ ?_; (with_reducible refine (samphireref02_Right.calls _ _ l0 t650 _ ?side1 ?side2 A15.out).mono ?_); (case side1 => repeat (first | exact (Kd.C_below HR0.out BL) | (with_reducible refine Kd.C_alloc ?_ _) | (with_reducible refine Kd.C_drewN ?_ _) | (with_reducible refine Kd.C_drew ?_))); (case side2 => exact HC0.out); rintro e w' ⟨rfl, ⟨nd, rfl⟩⟩; refine ⟨_, rfl, ?_⟩) | ((with_reducible refine gate_callee (f := 30) rfl ?_); refine goesL_ (some 36) rfl rfl Tryd.func30 (by kernel_rfl) rfl #[.slice A0 l0.length c0, .slice A1 l1.length c1] rfl EQ ?_; (with_reducible refine (nat_Add.calls kj9 _ _ l0 _ _ l1 t651 t652 _ ?side1 ?side2 ?side3 ?side4 A17.out).mono ?_); (case side1 => repeat (first | exact (Kd.C_below HR0.out BL) | (with_reducible refine Kd.C_alloc ?_ _) | (with_reducible refine Kd.C_drewN ?_ _) | (with_reducible refine Kd.C_drew ?_))); (case side2 => exact HC0.out); (case side3 => repeat (first | exact (Kd.C_below HR1.out BL) | (with_reducible refine Kd.C_alloc ?_ _) | (with_reducible refine Kd.C_drewN ?_ _) | (with_reducible refine Kd.C_drew ?_))); (case side4 => exact HC1.out); rintro e w72 ⟨v653, rfl, ho0, hb⟩; refine ⟨_, rfl, ?_⟩; have n0_ := Aside0.mk (Kd.R_lower ho0 (below_size BL)); have n1_ := Aside0.mk (below_step BL hb); clear HB; have HO654 := n0_; have HB := n1_; clear n0_ n1_; (try clear hb); (try clear hb2); (try clear hk); (try clear hi); (try clear ho0)) | ((with_reducible refine gate_callee (f := 31) rfl ?_); refine goesL_ (some 42) rfl rfl Tryd.func31 (by kernel_rfl) rfl #[.slice A0 l0.length c0, .slice A1 l1.length c1] rfl EQ ?_; (with_reducible refine (nat_Mul.calls kj9 _ _ l0 _ _ l1 t655 t656 _ ?side1 ?side2 ?side3 ?side4 A18.out).mono ?_); (case side1 => exact CB HR0); (case side2 => exact HC0.out); (case side3 => exact CB HR1); (case side4 => exact HC1.out); rintro e w73 ⟨v657, rfl, ho0, hb⟩; refine ⟨_, rfl, ?_⟩; have n0_ := Aside0.mk (Kd.R_elder' (RL HO654) (Kd.R_base ho0) hb); have n1_ := Aside0.mk (Kd.R_lower (Kd.R_new' ho0 (Kd.R_lt (RL HO654))) (below_size BL)); have n2_ := Aside0.mk (below_step BL hb); clear HO654; clear HB; have HO654 := n0_; have HO658 := n1_; have HB := n2_; clear n0_ n1_ n2_; (try clear hb); (try clear hb2); (try clear hk); (try clear hi); (try clear ho0)) | ((with_reducible refine gate_callee (f := 32) rfl ?_); refine goesL_ (some 48) rfl rfl Tryd.func32 (by kernel_rfl) rfl #[.slice A0 l0.length c0, .slice A1 l1.length c1] rfl EQ ?_; (with_reducible refine (nat_Sub.calls kj9 _ _ l0 _ _ l1 t659 t660 _ ?side1 ?side2 ?side3 ?side4 A19.out).mono ?_); (case side1 => exact CB HR0); (case side2 => exact HC0.out); (case side3 => exact CB HR1); (case side4 => exact HC1.out); rintro e w74 ⟨v661, rfl, ho0, hb⟩; refine ⟨_, rfl, ?_⟩; have n0_ := Aside0.mk (Kd.R_elder' (RL HO654) (Kd.R_base ho0) hb); have n1_ := Aside0.mk (Kd.R_elder' (RL HO658) (Kd.R_base ho0) hb); have n2_ := Aside0.mk (Kd.R_lower (Kd.R_new' (Kd.R_new' ho0 (Kd.R_lt (RL HO654))) (Kd.R_lt (RL HO658))) (below_size BL)); have n3_ := Aside0.mk (below_step BL hb); clear HO654; clear HO658; clear HB; have HO654 := n0_; have HO658 := n1_; have HO662 := n2_; have HB := n3_; clear n0_ n1_ n2_ n3_; (try clear hb); (try clear hb2); (try clear hk); (try clear hi); (try clear ho0); obtain ⟨Ao75, co75, eo75⟩ := Kd.R_slice HO654.out; subst eo75) | ((with_reducible refine gate_callee (f := 16) rfl ?_); refine goesL_ (some 55) rfl rfl Tryd.func16 (by kernel_rfl) rfl #[.slice Ao75 t651.length co75, .int .i64 t652, .bool false, .slice none 0 0] rfl EQ ?_; (refine (samphirelaw02_told.calls kj9 _ _ t651 t652 false _ _ ([] : List Int) true _ ?side1 ?side2 ?side3 ?side4 A63.out).mono ?_); (case side1 => exact RR HO654); (case side2 => exact (Kd.R_reads' HO654.out).2.1); (case side3 => exact Kd.C_nil _ _); (case side4 => exact Nat.le_refl _); rintro e w' ⟨rfl, ⟨nd, rfl⟩⟩; refine ⟨_, rfl, ?_⟩; obtain ⟨Ao76, co76, eo76⟩ := Kd.R_slice HO658.out; subst eo76) | (go_at_call 16; refine calls_of_args (args' := #[.slice Ao76 t655.length co76, .int .i64 t656, .bool false, .slice none 0 0]) (by first | (with_reducible rfl) | rfl) ?_; (refine (samphirelaw02_told.calls kj9 _ _ t655 t656 false _ _ ([] : List Int) true _ ?side1 ?side2 ?side3 ?side4 A65.out).mono ?_); (case side1 => exact RR HO658); (case side2 => exact (Kd.R_reads' HO658.out).2.1); (case side3 => exact Kd.C_nil _ _); (case side4 => exact Nat.le_refl _); rintro e w' ⟨rfl, ⟨nd, rfl⟩⟩; obtain ⟨Ao77, co77, eo77⟩ := Kd.R_slice HO662.out; subst eo77) | (go_at_call 16; refine calls_of_args (args' := #[.slice Ao77 t659.length co77, .int .i64 t660, .bool false, .slice none 0 0]) (by first | (with_reducible rfl) | rfl) ?_; (refine (samphirelaw02_told.calls kj9 _ _ t659 t660 false _ _ ([] : List Int) true _ ?side1 ?side2 ?side3 ?side4 A67.out).mono ?_); (case side1 => exact RR HO662); (case side2 => exact (Kd.R_reads' HO662.out).2.1); (case side3 => exact Kd.C_nil _ _); (case side4 => exact Nat.le_refl _); rintro e w' ⟨rfl, ⟨nd, rfl⟩⟩) | (go_at_call 33; (with_reducible refine (nat_Cmp.calls kj9 _ _ l0 _ _ l1 t666 _ ?side1 ?side2 ?side3 ?side4 A69.out).mono ?_); (case side1 => repeat (first | exact (Kd.C_below HR0.out BL) | (with_reducible refine Kd.C_alloc ?_ _) | (with_reducible refine Kd.C_drewN ?_ _) | (with_reducible refine Kd.C_drew ?_))); (case side2 => exact HC0.out); (case side3 => repeat (first | exact (Kd.C_below HR1.out BL) | (with_reducible refine Kd.C_alloc ?_ _) | (with_reducible refine Kd.C_drewN ?_ _) | (with_reducible refine Kd.C_drew ?_))); (case side4 => exact HC1.out); rintro e w78 ⟨rfl, hb⟩; have n0_ := Aside0.mk (Kd.R_below (RL HO654) hb); have n1_ := Aside0.mk (Kd.R_below (RL HO658) hb); have n2_ := Aside0.mk (Kd.R_below (RL HO662) hb); have n3_ := Aside0.mk (below_step BL hb); clear HO654; clear HO658; clear HO662; clear HB; have HO654 := n0_; have HO658 := n1_; have HO662 := n2_; have HB := n3_; clear n0_ n1_ n2_ n3_; (try clear hb); (try clear hb2); (try clear hk); (try clear hi)) | (go_at_call 12; (with_reducible refine (samphirelaw02_awake.calls kj9  t667 _ A71.out).mono ?_); rintro e w79 ⟨rfl, hb⟩; have n0_ := Aside0.mk (Kd.R_below (RL HO654) hb); have n1_ := Aside0.mk (Kd.R_below (RL HO658) hb); have n2_ := Aside0.mk (Kd.R_below (RL HO662) hb); have n3_ := Aside0.mk (below_step BL hb); clear HO654; clear HO658; clear HO662; clear HB; have HO654 := n0_; have HO658 := n1_; have HO662 := n2_; have HB := n3_; clear n0_ n1_ n2_ n3_; (try clear hb); (try clear hb2); (try clear hk); (try clear hi)))
                    go_ret
                    exact ⟨by first | rfl | (simp [errW_none, errW_some] <;> rfl) | (simp [*, errW_none, errW_some] <;> rfl), BL⟩
                  · replace c68 := Bool.eq_false_iff.mpr c68
                    subst c68
                    have H1 : (none) = some r := by rw [if_neg (show ¬ (false = true) by decide)] at H; exact H
                    clear H
                    have H := H1
                    clear H1
                    cases H
                · replace c66 := Bool.eq_false_iff.mpr c66
                  subst c66
                  have H1 : (none) = some r := by rw [if_neg (show ¬ (false = true) by decide)] at H; exact H
                  clear H
                  have H := H1
                  clear H1
                  cases H
              · replace c64 := Bool.eq_false_iff.mpr c64
                subst c64
                have H1 : (none) = some r := by rw [if_neg (show ¬ (false = true) by decide)] at H; exact H
                clear H
                have H := H1
                clear H1
                cases H

/-- THE ONE PURE STATEMENT of samphirelaw02_NatSums: yours. -/
theorem samphirelaw02_NatSums.walk (P : samphirelaw02_NatSums.Pure) (a0 : Option Addr) (len0 cap0 : Nat) (z0 : List Int) (a1 : Option Addr) (len1 cap1 : Nat) (z1 : List Int) (w : World) (w0 : (a0 = none ∧ len0 = 0 ∧ cap0 = 0 ∧ z0 = []) ∨ ∃ x, a0 = some x ∧ len0 ≤ cap0 ∧ cap0 ≤ maxLen ∧ z0.length = cap0 ∧ (∀ i, i < z0.length → w.cell? (x.add i) = some (.int .u32 (z0.getD i 0))) ∧ ∀ n ∈ z0, (Lit.int .u32 n).wf = true) (y0 : len0 * 4 ≤ 140737488351232) (w1 : (a1 = none ∧ len1 = 0 ∧ cap1 = 0 ∧ z1 = []) ∨ ∃ x, a1 = some x ∧ len1 ≤ cap1 ∧ cap1 ≤ maxLen ∧ z1.length = cap1 ∧ (∀ i, i < z1.length → w.cell? (x.add i) = some (.int .u32 (z1.getD i 0))) ∧ ∀ n ∈ z1, (Lit.int .u32 n).wf = true) (y1 : len1 * 4 ≤ 140737488351232) :
    Calls Tryd.prog 6 #[.slice a0 len0 cap0, .slice a1 len1 cap1] w fun e w' => e = .returned (.bool true) ∧ Below w.heap.size w w' := by
  obtain ⟨l0, rfl, hr0, hm0, hw0, hc0⟩ := ReadsInt.ofRowC w0
  obtain ⟨l1, rfl, hr1, hm1, hw1, hc1⟩ := ReadsInt.ofRowC w1
  obtain ⟨k, h⟩ := P l0 l1 hm0 y0 hw0 hm1 y1 hw1
  refine (samphirelaw02_NatSums.calls k _ _ l0 _ _ l1 true w (Kd.C_of_reads (d := (0 : Int)) (h1 := fun _ => rfl) hr0) hc0 (Kd.C_of_reads (d := (0 : Int)) (h1 := fun _ => rfl) hr1) hc1 h).mono ?_
  rintro e w' ⟨rfl, hd⟩
  exact ⟨rfl, hd⟩

end Go.Proofs.YtdgbeejhccogpaaDoor.P
