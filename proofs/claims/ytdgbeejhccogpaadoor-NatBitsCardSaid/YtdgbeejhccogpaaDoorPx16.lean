-- Printed by this session's own program out of the translation.
import Derived.Test.YtdgbeejhccogpaaDoorPx0
import Derived.Test.YtdgbeejhccogpaaDoorPx1
import Derived.Test.YtdgbeejhccogpaaDoorPx3
import Derived.Test.YtdgbeejhccogpaaDoorPx4
namespace Go.Proofs.YtdgbeejhccogpaaDoor.P
open Go.RowKit Go.Proofs.YtdgbeejhccogpaaDoorW.PrintWords Go.Proofs.YtdgbeejhccogpaaDoorW.PrintLast Go.Proofs.YtdgbeejhccogpaaDoorW.PrintMore
attribute [local go_sem] max2_int min2_int max_two min_two max_three min_three max_four min_four   -- for this text's walks alone
set_option linter.unusedVariables false
set_option linter.unusedSimpArgs false

/-! ### samphirelaw02_NatBits: function 8 -/
set_option maxHeartbeats 8000000 in
set_option maxRecDepth 100000 in
theorem samphirelaw02_NatBits.calls (k : Nat) (A0 : Option Addr) (c0 : Nat) (l0 : List Int) (A1 : Option Addr) (c1 : Nat) (l1 : List Int) (r : Bool) (w : World) (hr0 : Kd.C (Kd.int .u32) w A0 l0.length l0) (hc0 : l0.length ≤ c0) (hr1 : Kd.C (Kd.int .u32) w A1 l1.length l1) (hc1 : l1.length ≤ c1) (h : samphirelaw02_NatBits.f k l0 l1 = some r) :
    Calls Tryd.prog 8 #[.slice A0 l0.length c0, .slice A1 l1.length c1] w fun e w' => e = .returned (.bool r) ∧ Below w.heap.size w w' := by
  have HR0 := Aside0.mk hr0
  have HC0 := Aside0.mk hc0
  clear hr0 hc0
  have HR1 := Aside0.mk hr1
  have HC1 := Aside0.mk hc1
  clear hr1 hc1
  have HB := Aside0.mk (Below.refl w.heap.size w)
  have H : (if (l0.length : Int) > 30 then (samphirelaw02_NatBits.j0 k l0 l1 true) else (if (l1.length : Int) > 30 then (samphirelaw02_NatBits.j0 k l0 l1 true) else ((nat_Right.f l0).bind fun t728 => (if t728 = true then ((nat_Right.f l1).bind fun t729 => (samphirelaw02_NatBits.j0 k l0 l1 (!t729))) else (samphirelaw02_NatBits.j0 k l0 l1 true))))) = some r := h
  clear h
  have HC3 := Aside0.mk H
  clear H
  go_enter Tryd.func8, Tryd.ntmps8
  go_upto_region 1 with (fail)
  go_cut [29] (fun v29 wc => ∃ (kq : Nat) (x29_2 : Bool), v29 = .bool x29_2 ∧ Aside0 (samphirelaw02_NatBits.j0 kq l0 l1 x29_2 = some r) ∧ Aside0 (kq ≤ k) ∧ Aside0 (Below w.heap.size w wc))
  case first =>
    have H := HC3.out
    clear HC3
    by_cases c4 : (l0.length : Int) > 30
    · rw [if_pos c4] at H
      have c4b0 : decide (30 < (l0.length : Int)) = true := decide_eq_true c4
      have c4b1 : decide (30 < l0.length) = true := decide_eq_true (by omega)
      clear c4
      (first | rw [c4b0] | (simp only [i64_w, i32_w]; rw [c4b0]) | skip)
      have H' := Aside0.mk H
      clear H
      go_wp2
      go_meet
      case rel => exact ⟨_, (true), (by first | rfl | (simp; done) | (simp [*]; done) | (simp; exact isEmpty_bne _)), H', ⟨by first | omega | exact Nat.le_refl _⟩, ⟨BL⟩⟩
    · rw [if_neg c4] at H
      have c4b0 : decide (30 < (l0.length : Int)) = false := decide_eq_false c4
      have c4b1 : decide (30 < l0.length) = false := decide_eq_false (by omega)
      clear c4
      (first | rw [c4b0] | (simp only [i64_w, i32_w]; rw [c4b0]) | skip)
      by_cases c5 : (l1.length : Int) > 30
      · rw [if_pos c5] at H
        have c5b0 : decide (30 < (l1.length : Int)) = true := decide_eq_true c5
        have c5b1 : decide (30 < l1.length) = true := decide_eq_true (by omega)
        clear c5
        have H' := Aside0.mk H
        clear H
        go_wp2
        go_meet
        case rel => exact ⟨_, (true), (by first | rfl | (simp; done) | (simp [*]; done) | (simp; exact isEmpty_bne _)), H', ⟨by first | omega | exact Nat.le_refl _⟩, ⟨BL⟩⟩
      · rw [if_neg c5] at H
        have c5b0 : decide (30 < (l1.length : Int)) = false := decide_eq_false c5
        have c5b1 : decide (30 < l1.length) = false := decide_eq_false (by omega)
        clear c5
        obtain ⟨t728, A6, H⟩ := bind_p H
        by_cases c7 : t728 = true
        · subst c7
          have H1 : ((nat_Right.f l1).bind fun t729 => (samphirelaw02_NatBits.j0 k l0 l1 (!t729))) = some r := by rw [if_pos rfl] at H; exact H
          clear H
          have H := H1
          clear H1
          obtain ⟨t729, A8, H⟩ := bind_p H
          have H' := Aside0.mk H
          clear H
          go_wp2_with (first | (go_at_call 20; (with_reducible refine (nat_Right.calls _ _ l0 true _ ?side1 ?side2 A6.out).mono ?_); (case side1 => exact CB HR0); (case side2 => exact HC0.out); rintro e w' ⟨rfl, ⟨nd, rfl⟩⟩) | (go_at_call 20; (with_reducible refine (nat_Right.calls _ _ l1 t729 _ ?side1 ?side2 A8.out).mono ?_); (case side1 => repeat (first | exact (Kd.C_below HR1.out BL) | (with_reducible refine Kd.C_alloc ?_ _) | (with_reducible refine Kd.C_drewN ?_ _) | (with_reducible refine Kd.C_drew ?_))); (case side2 => exact HC1.out); rintro e w' ⟨rfl, ⟨nd, rfl⟩⟩))
          go_meet
          case rel => exact ⟨_, (!t729), (by first | rfl | (simp; done) | (simp [*]; done) | (simp; exact isEmpty_bne _)), H', ⟨by first | omega | exact Nat.le_refl _⟩, ⟨BL⟩⟩
        · replace c7 := Bool.eq_false_iff.mpr c7
          subst c7
          have H1 : (samphirelaw02_NatBits.j0 k l0 l1 true) = some r := by rw [if_neg (show ¬ (false = true) by decide)] at H; exact H
          clear H
          have H := H1
          clear H1
          have H' := Aside0.mk H
          clear H
          go_wp2_with (first | (go_at_call 20; (with_reducible refine (nat_Right.calls _ _ l0 false _ ?side1 ?side2 A6.out).mono ?_); (case side1 => exact CB HR0); (case side2 => exact HC0.out); rintro e w' ⟨rfl, ⟨nd, rfl⟩⟩))
          go_meet
          case rel => exact ⟨_, (true), (by first | rfl | (simp; done) | (simp [*]; done) | (simp; exact isEmpty_bne _)), H', ⟨by first | omega | exact Nat.le_refl _⟩, ⟨BL⟩⟩
  case rest =>
    clear HC3
    try clear c1
    try clear p2
    try clear c4
    try clear c4b0
    try clear c4b1
    try clear c5
    try clear c5b0
    try clear c5b1
    try clear c7
    try clear c8
    obtain ⟨kq, x29_2, rfl, HA, HJ2, HB⟩ := hcut
    cases kq with
    | zero => exact absurd HA.out (by simp [samphirelaw02_NatBits.j0])
    | succ kj2 =>
      have H := HA.out
      clear HA
      simp only [samphirelaw02_NatBits.j0] at H
      by_cases c9 : x29_2 = true
      · subst c9
        have H1 : ((samphirelaw02_awake.f kj2).bind fun t730 => (some t730)) = some r := by rw [if_pos rfl] at H; exact H
        clear H
        have H := H1
        clear H1
        obtain ⟨t730, A10, H⟩ := bind_p H
        obtain rfl := Option.some.inj H
        go_wp2_with (first | ((with_reducible refine gate_callee (f := 12) rfl ?_); refine goesL_ (some 30) rfl rfl Tryd.func12 (by kernel_rfl) rfl #[] rfl EQ ?_; (with_reducible refine (samphirelaw02_awake.calls kj2  t730 _ A10.out).mono ?_); rintro e w11 ⟨rfl, hb⟩; refine ⟨_, rfl, ?_⟩; have n0_ := Aside0.mk (below_step BL hb); clear HB; have HB := n0_; clear n0_; (try clear hb); (try clear hb2); (try clear hk); (try clear hi)))
        go_ret
        exact ⟨by first | rfl | (simp [errW_none, errW_some] <;> rfl) | (simp [*, errW_none, errW_some] <;> rfl), BL⟩
      · replace c9 := Bool.eq_false_iff.mpr c9
        subst c9
        have H1 : ((nat_Mul.f kj2 l0 l1).bind fun bt731 => ((nat_Add.f kj2 l0 l1).bind fun bt735 => ((nat_Bits.f l0).bind fun t739 => ((nat_Bits.f l1).bind fun t740 => ((nat_Bits.f bt731.1).bind fun t741 => (if t739 > 0 then (if t740 > 0 then (if t741 = (wrap64 (t739 + t740)) then (if t739 = 0 then (samphirelaw02_NatBits.j1 kj2 bt731.2 bt735.1 bt735.2 t739 t740 (t741 != 0)) else (if t740 = 0 then (samphirelaw02_NatBits.j1 kj2 bt731.2 bt735.1 bt735.2 t739 t740 (t741 != 0)) else (samphirelaw02_NatBits.j1 kj2 bt731.2 bt735.1 bt735.2 t739 t740 false))) else (if t741 = (wrap64 ((wrap64 (t739 + t740)) - 1)) then (if t739 = 0 then (samphirelaw02_NatBits.j1 kj2 bt731.2 bt735.1 bt735.2 t739 t740 (t741 != 0)) else (if t740 = 0 then (samphirelaw02_NatBits.j1 kj2 bt731.2 bt735.1 bt735.2 t739 t740 (t741 != 0)) else (samphirelaw02_NatBits.j1 kj2 bt731.2 bt735.1 bt735.2 t739 t740 false))) else (none))) else (if t739 = 0 then (samphirelaw02_NatBits.j1 kj2 bt731.2 bt735.1 bt735.2 t739 t740 (t741 != 0)) else (if t740 = 0 then (samphirelaw02_NatBits.j1 kj2 bt731.2 bt735.1 bt735.2 t739 t740 (t741 != 0)) else (samphirelaw02_NatBits.j1 kj2 bt731.2 bt735.1 bt735.2 t739 t740 false)))) else (if t739 = 0 then (samphirelaw02_NatBits.j1 kj2 bt731.2 bt735.1 bt735.2 t739 t740 (t741 != 0)) else (if t740 = 0 then (samphirelaw02_NatBits.j1 kj2 bt731.2 bt735.1 bt735.2 t739 t740 (t741 != 0)) else (samphirelaw02_NatBits.j1 kj2 bt731.2 bt735.1 bt735.2 t739 t740 false))))))))) = some r := by rw [if_neg (show ¬ (false = true) by decide)] at H; exact H
        clear H
        have H := H1
        clear H1
        obtain ⟨⟨t731, t732⟩, A12, H⟩ := bind_p H
        dsimp only at H
        obtain ⟨⟨t735, t736⟩, A13, H⟩ := bind_p H
        dsimp only at H
        obtain ⟨t739, A14, H⟩ := bind_p H
        obtain ⟨t740, A15, H⟩ := bind_p H
        obtain ⟨t741, A16, H⟩ := bind_p H
        have HC17 := Aside0.mk H
        clear H
        go_upto_region 7 with (first | ((with_reducible refine gate_callee (f := 31) rfl ?_); refine goesL_ (some 34) rfl rfl Tryd.func31 (by kernel_rfl) rfl #[.slice A0 l0.length c0, .slice A1 l1.length c1] rfl EQ ?_; (with_reducible refine (nat_Mul.calls kj2 _ _ l0 _ _ l1 t731 t732 _ ?side1 ?side2 ?side3 ?side4 A12.out).mono ?_); (case side1 => exact CB HR0); (case side2 => exact HC0.out); (case side3 => exact CB HR1); (case side4 => exact HC1.out); rintro e w18 ⟨v733, rfl, ho0, hb⟩; refine ⟨_, rfl, ?_⟩; have n0_ := Aside0.mk (Kd.R_lower ho0 (below_size BL)); have n1_ := Aside0.mk (below_step BL hb); clear HB; have HO734 := n0_; have HB := n1_; clear n0_ n1_; (try clear hb); (try clear hb2); (try clear hk); (try clear hi); (try clear ho0)) | ((with_reducible refine gate_callee (f := 30) rfl ?_); refine goesL_ (some 40) rfl rfl Tryd.func30 (by kernel_rfl) rfl #[.slice A0 l0.length c0, .slice A1 l1.length c1] rfl EQ ?_; (with_reducible refine (nat_Add.calls kj2 _ _ l0 _ _ l1 t735 t736 _ ?side1 ?side2 ?side3 ?side4 A13.out).mono ?_); (case side1 => exact CB HR0); (case side2 => exact HC0.out); (case side3 => exact CB HR1); (case side4 => exact HC1.out); rintro e w19 ⟨v737, rfl, ho0, hb⟩; refine ⟨_, rfl, ?_⟩; have n0_ := Aside0.mk (Kd.R_elder' (RL HO734) (Kd.R_base ho0) hb); have n1_ := Aside0.mk (Kd.R_lower (Kd.R_new' ho0 (Kd.R_lt (RL HO734))) (below_size BL)); have n2_ := Aside0.mk (below_step BL hb); clear HO734; clear HB; have HO734 := n0_; have HO738 := n1_; have HB := n2_; clear n0_ n1_ n2_; (try clear hb); (try clear hb2); (try clear hk); (try clear hi); (try clear ho0)) | ((with_reducible refine gate_callee (f := 36) rfl ?_); refine goesL_ (some 44) rfl rfl Tryd.func36 (by kernel_rfl) rfl #[.slice A0 l0.length c0] rfl EQ ?_; (with_reducible refine (nat_Bits.calls _ _ l0 t739 _ ?side1 ?side2 A14.out).mono ?_); (case side1 => exact CB HR0); (case side2 => exact HC0.out); rintro e w' ⟨rfl, ⟨nd, rfl⟩⟩; refine ⟨_, rfl, ?_⟩) | ((with_reducible refine gate_callee (f := 36) rfl ?_); refine goesL_ (some 46) rfl rfl Tryd.func36 (by kernel_rfl) rfl #[.slice A1 l1.length c1] rfl EQ ?_; (with_reducible refine (nat_Bits.calls _ _ l1 t740 _ ?side1 ?side2 A15.out).mono ?_); (case side1 => repeat (first | exact (Kd.C_below HR1.out BL) | (with_reducible refine Kd.C_alloc ?_ _) | (with_reducible refine Kd.C_drewN ?_ _) | (with_reducible refine Kd.C_drew ?_))); (case side2 => exact HC1.out); rintro e w' ⟨rfl, ⟨nd, rfl⟩⟩; refine ⟨_, rfl, ?_⟩; obtain ⟨Ao20, co20, eo20⟩ := Kd.R_slice HO734.out; subst eo20) | ((with_reducible refine gate_callee (f := 36) rfl ?_); refine goesL_ (some 48) rfl rfl Tryd.func36 (by kernel_rfl) rfl #[.slice Ao20 t731.length co20] rfl EQ ?_; (with_reducible refine (nat_Bits.calls _ _ t731 t741 _ ?side1 ?side2 A16.out).mono ?_); (case side1 => exact RR HO734); (case side2 => exact (Kd.R_reads' HO734.out).2.1); rintro e w' ⟨rfl, ⟨nd, rfl⟩⟩; refine ⟨_, rfl, ?_⟩))
        (try simp only [Act.put, List.setIfInBounds_toArray, List.set_cons_zero, List.set_cons_succ])
        go_cut [81] (fun v81 wc => ∃ (kq : Nat) (x81_16 : Bool), v81 = .bool x81_16 ∧ Aside0 (samphirelaw02_NatBits.j1 kq t732 t735 t736 t739 t740 x81_16 = some r) ∧ Aside0 (kq ≤ kj2) ∧ Aside0 (Kd.R (Kd.int .u32) 36 wc w.heap.size (fun _ => True) v737 t735) ∧ Aside0 (Below w.heap.size w wc))
        case first =>
          have H := HC17.out
          clear HC17
          by_cases c21 : t739 > 0
          · rw [if_pos c21] at H
            have c21b0 : decide (0 < t739) = true := decide_eq_true c21
            clear c21
            (first | rw [c21b0] | (simp only [i64_w, i32_w]; rw [c21b0]) | skip)
            by_cases c22 : t740 > 0
            · rw [if_pos c22] at H
              have c22b0 : decide (0 < t740) = true := decide_eq_true c22
              clear c22
              by_cases c23 : t741 = (wrap64 (t739 + t740))
              · rw [if_pos c23] at H
                have c23b0 : (t741 == (wrap64 (t739 + t740))) = true := beq_iff_eq.mpr c23
                have c23b1 : (t741 != (wrap64 (t739 + t740))) = false := bne_eq_false_iff_eq.mpr c23
                clear c23
                by_cases c24 : t739 = 0
                · rw [if_pos c24] at H
                  have c24b0 : (t739 == 0) = true := beq_iff_eq.mpr c24
                  have c24b1 : (t739 != 0) = false := bne_eq_false_iff_eq.mpr c24
                  clear c24
                  have H' := Aside0.mk H
                  clear H
                  go_wp2
                  go_meet
                  case rel => exact ⟨_, ((t741 != 0)), (by first | rfl | (simp; done) | (simp [*]; done) | (simp; exact isEmpty_bne _)), H', ⟨by have := HJ2.out; first | omega | exact Nat.le_refl _⟩, ⟨by (with_reducible repeat (first | apply Kd.R_alloc | apply Kd.R_drewN | apply Kd.R_drew)); exact Kd.R_mono HO738.out (fun _ hk => trivial)⟩, ⟨BL⟩⟩
                · rw [if_neg c24] at H
                  have c24b0 : (t739 == 0) = false := beq_eq_false_iff_ne.mpr c24
                  have c24b1 : (t739 != 0) = true := bne_iff_ne.mpr c24
                  by_cases c25 : t740 = 0
                  · rw [if_pos c25] at H
                    have c25b0 : (t740 == 0) = true := beq_iff_eq.mpr c25
                    have c25b1 : (t740 != 0) = false := bne_eq_false_iff_eq.mpr c25
                    clear c25
                    have H' := Aside0.mk H
                    clear H
                    go_wp2
                    go_meet
                    case rel => exact ⟨_, ((t741 != 0)), (by first | rfl | (simp; done) | (simp [*]; done) | (simp; exact isEmpty_bne _)), H', ⟨by have := HJ2.out; first | omega | exact Nat.le_refl _⟩, ⟨by (with_reducible repeat (first | apply Kd.R_alloc | apply Kd.R_drewN | apply Kd.R_drew)); exact Kd.R_mono HO738.out (fun _ hk => trivial)⟩, ⟨BL⟩⟩
                  · rw [if_neg c25] at H
                    have c25b0 : (t740 == 0) = false := beq_eq_false_iff_ne.mpr c25
                    have c25b1 : (t740 != 0) = true := bne_iff_ne.mpr c25
                    have H' := Aside0.mk H
                    clear H
                    go_wp2
                    go_meet
                    case rel => exact ⟨_, (false), (by first | rfl | (simp; done) | (simp [*]; done) | (simp; exact isEmpty_bne _)), H', ⟨by have := HJ2.out; first | omega | exact Nat.le_refl _⟩, ⟨by (with_reducible repeat (first | apply Kd.R_alloc | apply Kd.R_drewN | apply Kd.R_drew)); exact Kd.R_mono HO738.out (fun _ hk => trivial)⟩, ⟨BL⟩⟩
              · rw [if_neg c23] at H
                have c23b0 : (t741 == (wrap64 (t739 + t740))) = false := beq_eq_false_iff_ne.mpr c23
                have c23b1 : (t741 != (wrap64 (t739 + t740))) = true := bne_iff_ne.mpr c23
                obtain ⟨c26, H⟩ := ite_p H
                have c26b0 : (t741 == (wrap64 ((wrap64 (t739 + t740)) - 1))) = true := beq_iff_eq.mpr c26
                have c26b1 : (t741 != (wrap64 ((wrap64 (t739 + t740)) - 1))) = false := bne_eq_false_iff_eq.mpr c26
                clear c26
                by_cases c27 : t739 = 0
                · rw [if_pos c27] at H
                  have c27b0 : (t739 == 0) = true := beq_iff_eq.mpr c27
                  have c27b1 : (t739 != 0) = false := bne_eq_false_iff_eq.mpr c27
                  clear c27
                  have H' := Aside0.mk H
                  clear H
                  go_wp2
                  go_meet
                  case rel => exact ⟨_, ((t741 != 0)), (by first | rfl | (simp; done) | (simp [*]; done) | (simp; exact isEmpty_bne _)), H', ⟨by have := HJ2.out; first | omega | exact Nat.le_refl _⟩, ⟨by (with_reducible repeat (first | apply Kd.R_alloc | apply Kd.R_drewN | apply Kd.R_drew)); exact Kd.R_mono HO738.out (fun _ hk => trivial)⟩, ⟨BL⟩⟩
                · rw [if_neg c27] at H
                  have c27b0 : (t739 == 0) = false := beq_eq_false_iff_ne.mpr c27
                  have c27b1 : (t739 != 0) = true := bne_iff_ne.mpr c27
                  by_cases c28 : t740 = 0
                  · rw [if_pos c28] at H
                    have c28b0 : (t740 == 0) = true := beq_iff_eq.mpr c28
                    have c28b1 : (t740 != 0) = false := bne_eq_false_iff_eq.mpr c28
                    clear c28
                    have H' := Aside0.mk H
                    clear H
                    go_wp2
                    go_meet
                    case rel => exact ⟨_, ((t741 != 0)), (by first | rfl | (simp; done) | (simp [*]; done) | (simp; exact isEmpty_bne _)), H', ⟨by have := HJ2.out; first | omega | exact Nat.le_refl _⟩, ⟨by (with_reducible repeat (first | apply Kd.R_alloc | apply Kd.R_drewN | apply Kd.R_drew)); exact Kd.R_mono HO738.out (fun _ hk => trivial)⟩, ⟨BL⟩⟩
                  · rw [if_neg c28] at H
                    have c28b0 : (t740 == 0) = false := beq_eq_false_iff_ne.mpr c28
                    have c28b1 : (t740 != 0) = true := bne_iff_ne.mpr c28
                    have H' := Aside0.mk H
                    clear H
                    go_wp2
                    go_meet
                    case rel => exact ⟨_, (false), (by first | rfl | (simp; done) | (simp [*]; done) | (simp; exact isEmpty_bne _)), H', ⟨by have := HJ2.out; first | omega | exact Nat.le_refl _⟩, ⟨by (with_reducible repeat (first | apply Kd.R_alloc | apply Kd.R_drewN | apply Kd.R_drew)); exact Kd.R_mono HO738.out (fun _ hk => trivial)⟩, ⟨BL⟩⟩
            · rw [if_neg c22] at H
              have c22b0 : decide (0 < t740) = false := decide_eq_false c22
              clear c22
              by_cases c29 : t739 = 0
              · rw [if_pos c29] at H
                have c29b0 : (t739 == 0) = true := beq_iff_eq.mpr c29
                have c29b1 : (t739 != 0) = false := bne_eq_false_iff_eq.mpr c29
                clear c29
                have H' := Aside0.mk H
                clear H
                go_wp2
                go_meet
                case rel => exact ⟨_, ((t741 != 0)), (by first | rfl | (simp; done) | (simp [*]; done) | (simp; exact isEmpty_bne _)), H', ⟨by have := HJ2.out; first | omega | exact Nat.le_refl _⟩, ⟨by (with_reducible repeat (first | apply Kd.R_alloc | apply Kd.R_drewN | apply Kd.R_drew)); exact Kd.R_mono HO738.out (fun _ hk => trivial)⟩, ⟨BL⟩⟩
              · rw [if_neg c29] at H
                have c29b0 : (t739 == 0) = false := beq_eq_false_iff_ne.mpr c29
                have c29b1 : (t739 != 0) = true := bne_iff_ne.mpr c29
                by_cases c30 : t740 = 0
                · rw [if_pos c30] at H
                  have c30b0 : (t740 == 0) = true := beq_iff_eq.mpr c30
                  have c30b1 : (t740 != 0) = false := bne_eq_false_iff_eq.mpr c30
                  clear c30
                  have H' := Aside0.mk H
                  clear H
                  go_wp2
                  go_meet
                  case rel => exact ⟨_, ((t741 != 0)), (by first | rfl | (simp; done) | (simp [*]; done) | (simp; exact isEmpty_bne _)), H', ⟨by have := HJ2.out; first | omega | exact Nat.le_refl _⟩, ⟨by (with_reducible repeat (first | apply Kd.R_alloc | apply Kd.R_drewN | apply Kd.R_drew)); exact Kd.R_mono HO738.out (fun _ hk => trivial)⟩, ⟨BL⟩⟩
                · rw [if_neg c30] at H
                  have c30b0 : (t740 == 0) = false := beq_eq_false_iff_ne.mpr c30
                  have c30b1 : (t740 != 0) = true := bne_iff_ne.mpr c30
                  have H' := Aside0.mk H
                  clear H
                  go_wp2
                  go_meet
                  case rel => exact ⟨_, (false), (by first | rfl | (simp; done) | (simp [*]; done) | (simp; exact isEmpty_bne _)), H', ⟨by have := HJ2.out; first | omega | exact Nat.le_refl _⟩, ⟨by (with_reducible repeat (first | apply Kd.R_alloc | apply Kd.R_drewN | apply Kd.R_drew)); exact Kd.R_mono HO738.out (fun _ hk => trivial)⟩, ⟨BL⟩⟩
          · rw [if_neg c21] at H
            have c21b0 : decide (0 < t739) = false := decide_eq_false c21
            clear c21
            (first | rw [c21b0] | (simp only [i64_w, i32_w]; rw [c21b0]) | skip)
            by_cases c31 : t739 = 0
            · rw [if_pos c31] at H
              have c31b0 : (t739 == 0) = true := beq_iff_eq.mpr c31
              have c31b1 : (t739 != 0) = false := bne_eq_false_iff_eq.mpr c31
              clear c31
              have H' := Aside0.mk H
              clear H
              go_wp2
              go_meet
              case rel => exact ⟨_, ((t741 != 0)), (by first | rfl | (simp; done) | (simp [*]; done) | (simp; exact isEmpty_bne _)), H', ⟨by have := HJ2.out; first | omega | exact Nat.le_refl _⟩, ⟨by (with_reducible repeat (first | apply Kd.R_alloc | apply Kd.R_drewN | apply Kd.R_drew)); exact Kd.R_mono HO738.out (fun _ hk => trivial)⟩, ⟨BL⟩⟩
            · rw [if_neg c31] at H
              have c31b0 : (t739 == 0) = false := beq_eq_false_iff_ne.mpr c31
              have c31b1 : (t739 != 0) = true := bne_iff_ne.mpr c31
              by_cases c32 : t740 = 0
              · rw [if_pos c32] at H
                have c32b0 : (t740 == 0) = true := beq_iff_eq.mpr c32
                have c32b1 : (t740 != 0) = false := bne_eq_false_iff_eq.mpr c32
                clear c32
                have H' := Aside0.mk H
                clear H
                go_wp2
                go_meet
                case rel => exact ⟨_, ((t741 != 0)), (by first | rfl | (simp; done) | (simp [*]; done) | (simp; exact isEmpty_bne _)), H', ⟨by have := HJ2.out; first | omega | exact Nat.le_refl _⟩, ⟨by (with_reducible repeat (first | apply Kd.R_alloc | apply Kd.R_drewN | apply Kd.R_drew)); exact Kd.R_mono HO738.out (fun _ hk => trivial)⟩, ⟨BL⟩⟩
              · rw [if_neg c32] at H
                have c32b0 : (t740 == 0) = false := beq_eq_false_iff_ne.mpr c32
                have c32b1 : (t740 != 0) = true := bne_iff_ne.mpr c32
                have H' := Aside0.mk H
                clear H
                go_wp2
                go_meet
                case rel => exact ⟨_, (false), (by first | rfl | (simp; done) | (simp [*]; done) | (simp; exact isEmpty_bne _)), H', ⟨by have := HJ2.out; first | omega | exact Nat.le_refl _⟩, ⟨by (with_reducible repeat (first | apply Kd.R_alloc | apply Kd.R_drewN | apply Kd.R_drew)); exact Kd.R_mono HO738.out (fun _ hk => trivial)⟩, ⟨BL⟩⟩
        case rest =>
          clear HC17
          try clear c1
          try clear c2
          try clear p2
          try clear c3
          try clear c4
          try clear c4b0
          try clear c4b1
          try clear c5
          try clear c5b0
          try clear c5b1
          try clear p6
          try clear c7
          try clear c8
          try clear c9
          try clear c12
          try clear c21
          try clear c21b0
          try clear c22
          try clear c22b0
          try clear c23
          try clear c23b0
          try clear c23b1
          try clear c24
          try clear c24b0
          try clear c24b1
          try clear c25
          try clear c25b0
          try clear c25b1
          try clear c26
          try clear c26b0
          try clear c26b1
          try clear c27
          try clear c27b0
          try clear c27b1
          try clear c28
          try clear c28b0
          try clear c28b1
          try clear c29
          try clear c29b0
          try clear c29b1
          try clear c30
          try clear c30b0
          try clear c30b1
          try clear c31
          try clear c31b0
          try clear c31b1
          try clear c32
          try clear c32b0
          try clear c32b1
          try clear p2
          obtain ⟨kq, x81_16, rfl, HA, HJ16, HO_7, HB⟩ := hcut
          cases kq with
          | zero => exact absurd HA.out (by simp [samphirelaw02_NatBits.j1])
          | succ kj16 =>
            have H := HA.out
            clear HA
            simp only [samphirelaw02_NatBits.j1] at H
            by_cases c33 : x81_16 = true
            · subst c33
              have H1 : (none) = some r := by rw [if_pos rfl] at H; exact H
              clear H
              have H := H1
              clear H1
              cases H
            · replace c33 := Bool.eq_false_iff.mpr c33
              subst c33
              have H1 : (if t732 = 0 then (if t736 = 0 then ((nat_Bits.f t735).bind fun t742 => (if t742 ≥ (mx t739 t740) then ((nat_Bits.f t735).bind fun t743 => (if t743 ≤ (wrap64 ((mx t739 t740) + 1)) then ((samphirelaw02_awake.f kj16).bind fun t744 => (some t744)) else (none))) else (none))) else (none)) else (none)) = some r := by rw [if_neg (show ¬ (false = true) by decide)] at H; exact H
              clear H
              have H := H1
              clear H1
              obtain ⟨c34, H⟩ := ite_p H
              have c34b0 : (t732 == 0) = true := beq_iff_eq.mpr c34
              have c34b1 : (t732 != 0) = false := bne_eq_false_iff_eq.mpr c34
              clear c34
              obtain ⟨c35, H⟩ := ite_p H
              have c35b0 : (t736 == 0) = true := beq_iff_eq.mpr c35
              have c35b1 : (t736 != 0) = false := bne_eq_false_iff_eq.mpr c35
              clear c35
              obtain ⟨t742, A36, H⟩ := bind_p H
              obtain ⟨ji37, hji37⟩ := let_j (mx t739 t740)
              (first | rw [hji37] at H | simp only [hji37] at H ⊢)
              (try rw [hji37] at A36)
              have hji37_ : (if t739 < t740 then t740 else t739) = ji37 := hji37
              obtain ⟨c38, H⟩ := ite_p H
              have c38b0 : decide ((ji37) ≤ t742) = true := decide_eq_true c38
              clear c38
              obtain ⟨t743, A39, H⟩ := bind_p H
              obtain ⟨c41, H⟩ := ite_p H
              have c41b0 : decide (t742 ≤ (wrap64 ((ji37) + 1))) = true := decide_eq_true (by rw [Option.some.inj (A36.out.symm.trans A39.out)]; exact c41)
              clear c41
              obtain ⟨t744, A42, H⟩ := bind_p H
              obtain rfl := Option.some.inj H
              obtain ⟨Ao43, co43, eo43⟩ := Kd.R_slice HO_7.out
              subst eo43
              go_wp2_with (first | (go_at_call 36; (with_reducible refine (nat_Bits.calls _ _ t735 t742 _ ?side1 ?side2 A36.out).mono ?_); (case side1 => exact RR HO_7); (case side2 => exact (Kd.R_reads' HO_7.out).2.1); rintro e w' ⟨rfl, ⟨nd, rfl⟩⟩) | (go_at_call 36; (with_reducible refine (nat_Bits.calls _ _ t735 t743 _ ?side1 ?side2 A39.out).mono ?_); (case side1 => exact RR HO_7); (case side2 => exact (Kd.R_reads' HO_7.out).2.1); rintro e w' ⟨rfl, ⟨nd, rfl⟩⟩) | (go_at_call 12; (with_reducible refine (samphirelaw02_awake.calls kj16  t744 _ A42.out).mono ?_); rintro e w44 ⟨rfl, hb⟩; have n0_ := Aside0.mk (Kd.R_below (RL HO_7) hb); have n1_ := Aside0.mk (below_step BL hb); clear HO_7; clear HB; have HO_7 := n0_; have HB := n1_; clear n0_ n1_; (try clear hb); (try clear hb2); (try clear hk); (try clear hi)))
              go_ret
              exact ⟨by first | rfl | (simp [errW_none, errW_some] <;> rfl) | (simp only [← hji37]; first | rfl | (simp [errW_none, errW_some] <;> rfl)) | (simp [*, errW_none, errW_some] <;> rfl), BL⟩

/-- THE ONE PURE STATEMENT of samphirelaw02_NatBits: yours. -/
theorem samphirelaw02_NatBits.walk (P : samphirelaw02_NatBits.Pure) (a0 : Option Addr) (len0 cap0 : Nat) (z0 : List Int) (a1 : Option Addr) (len1 cap1 : Nat) (z1 : List Int) (w : World) (w0 : (a0 = none ∧ len0 = 0 ∧ cap0 = 0 ∧ z0 = []) ∨ ∃ x, a0 = some x ∧ len0 ≤ cap0 ∧ cap0 ≤ maxLen ∧ z0.length = cap0 ∧ (∀ i, i < z0.length → w.cell? (x.add i) = some (.int .u32 (z0.getD i 0))) ∧ ∀ n ∈ z0, (Lit.int .u32 n).wf = true) (y0 : len0 * 4 ≤ 140737488351232) (w1 : (a1 = none ∧ len1 = 0 ∧ cap1 = 0 ∧ z1 = []) ∨ ∃ x, a1 = some x ∧ len1 ≤ cap1 ∧ cap1 ≤ maxLen ∧ z1.length = cap1 ∧ (∀ i, i < z1.length → w.cell? (x.add i) = some (.int .u32 (z1.getD i 0))) ∧ ∀ n ∈ z1, (Lit.int .u32 n).wf = true) (y1 : len1 * 4 ≤ 140737488351232) :
    Calls Tryd.prog 8 #[.slice a0 len0 cap0, .slice a1 len1 cap1] w fun e w' => e = .returned (.bool true) ∧ Below w.heap.size w w' := by
  obtain ⟨l0, rfl, hr0, hm0, hw0, hc0⟩ := ReadsInt.ofRowC w0
  obtain ⟨l1, rfl, hr1, hm1, hw1, hc1⟩ := ReadsInt.ofRowC w1
  obtain ⟨k, h⟩ := P l0 l1 hm0 y0 hw0 hm1 y1 hw1
  refine (samphirelaw02_NatBits.calls k _ _ l0 _ _ l1 true w (Kd.C_of_reads (d := (0 : Int)) (h1 := fun _ => rfl) hr0) hc0 (Kd.C_of_reads (d := (0 : Int)) (h1 := fun _ => rfl) hr1) hc1 h).mono ?_
  rintro e w' ⟨rfl, hd⟩
  exact ⟨rfl, hd⟩

end Go.Proofs.YtdgbeejhccogpaaDoor.P
