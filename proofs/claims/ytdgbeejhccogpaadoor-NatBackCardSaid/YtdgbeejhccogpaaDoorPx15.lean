-- Printed by this session's own program out of the translation.
import Derived.Test.YtdgbeejhccogpaaDoorPx0
import Derived.Test.YtdgbeejhccogpaaDoorPx1
import Derived.Test.YtdgbeejhccogpaaDoorPx2
import Derived.Test.YtdgbeejhccogpaaDoorPx3
import Derived.Test.YtdgbeejhccogpaaDoorPx4
namespace Go.Proofs.YtdgbeejhccogpaaDoor.P
open Go.RowKit Go.Proofs.YtdgbeejhccogpaaDoorW.PrintWords Go.Proofs.YtdgbeejhccogpaaDoorW.PrintLast Go.Proofs.YtdgbeejhccogpaaDoorW.PrintMore
attribute [local go_sem] max2_int min2_int max_two min_two max_three min_three max_four min_four   -- for this text's walks alone
set_option linter.unusedVariables false
set_option linter.unusedSimpArgs false

/-! ### samphirelaw02_NatBack: function 7 -/
set_option maxHeartbeats 8000000 in
set_option maxRecDepth 100000 in
theorem samphirelaw02_NatBack.calls (k : Nat) (A0 : Option Addr) (c0 : Nat) (l0 : List Int) (A1 : Option Addr) (c1 : Nat) (l1 : List Int) (r : Bool) (w : World) (hr0 : Kd.C (Kd.int .u32) w A0 l0.length l0) (hc0 : l0.length ≤ c0) (hr1 : Kd.C (Kd.int .u32) w A1 l1.length l1) (hc1 : l1.length ≤ c1) (h : samphirelaw02_NatBack.f k l0 l1 = some r) :
    Calls Tryd.prog 7 #[.slice A0 l0.length c0, .slice A1 l1.length c1] w fun e w' => e = .returned (.bool r) ∧ Below w.heap.size w w' := by
  have HR0 := Aside0.mk hr0
  have HC0 := Aside0.mk hc0
  clear hr0 hc0
  have HR1 := Aside0.mk hr1
  have HC1 := Aside0.mk hc1
  clear hr1 hc1
  have HB := Aside0.mk (Below.refl w.heap.size w)
  have H : (if (l0.length : Int) > 30 then (samphirelaw02_NatBack.j0 k l0 l1 true) else (if (l1.length : Int) > 30 then (samphirelaw02_NatBack.j0 k l0 l1 true) else ((nat_Right.f l0).bind fun t689 => (if t689 = true then ((nat_Right.f l1).bind fun t690 => (samphirelaw02_NatBack.j0 k l0 l1 (!t690))) else (samphirelaw02_NatBack.j0 k l0 l1 true))))) = some r := h
  clear h
  have HC3 := Aside0.mk H
  clear H
  go_enter Tryd.func7, Tryd.ntmps7
  go_upto_region 1 with (fail)
  go_cut [35] (fun v35 wc => ∃ (kq : Nat) (x35_2 : Bool), v35 = .bool x35_2 ∧ Aside0 (samphirelaw02_NatBack.j0 kq l0 l1 x35_2 = some r) ∧ Aside0 (kq ≤ k) ∧ Aside0 (Below w.heap.size w wc))
  case first =>
    have H := HC3.out
    clear HC3
    by_cases c4 : (l0.length : Int) > 30
    · rw [if_pos c4] at H
      have c4b0 : decide (30 < (l0.length : Int)) = true := decide_eq_true c4
      have c4b1 : decide (30 < l0.length) = true := decide_eq_true (by omega)
      clear c4
      (first | rw [c4b0] | (simp only [i64_w, i32_w]; rw [c4b0]) | skip)
      have H' := Aside0.mk H
      clear H
      go_wp2
      go_meet
      case rel => exact ⟨_, (true), (by first | rfl | (simp; done) | (simp [*]; done) | (simp; exact isEmpty_bne _)), H', ⟨by first | omega | exact Nat.le_refl _⟩, ⟨BL⟩⟩
    · rw [if_neg c4] at H
      have c4b0 : decide (30 < (l0.length : Int)) = false := decide_eq_false c4
      have c4b1 : decide (30 < l0.length) = false := decide_eq_false (by omega)
      clear c4
      (first | rw [c4b0] | (simp only [i64_w, i32_w]; rw [c4b0]) | skip)
      by_cases c5 : (l1.length : Int) > 30
      · rw [if_pos c5] at H
        have c5b0 : decide (30 < (l1.length : Int)) = true := decide_eq_true c5
        have c5b1 : decide (30 < l1.length) = true := decide_eq_true (by omega)
        clear c5
        have H' := Aside0.mk H
        clear H
        go_wp2
        go_meet
        case rel => exact ⟨_, (true), (by first | rfl | (simp; done) | (simp [*]; done) | (simp; exact isEmpty_bne _)), H', ⟨by first | omega | exact Nat.le_refl _⟩, ⟨BL⟩⟩
      · rw [if_neg c5] at H
        have c5b0 : decide (30 < (l1.length : Int)) = false := decide_eq_false c5
        have c5b1 : decide (30 < l1.length) = false := decide_eq_false (by omega)
        clear c5
        obtain ⟨t689, A6, H⟩ := bind_p H
        by_cases c7 : t689 = true
        · subst c7
          have H1 : ((nat_Right.f l1).bind fun t690 => (samphirelaw02_NatBack.j0 k l0 l1 (!t690))) = some r := by rw [if_pos rfl] at H; exact H
          clear H
          have H := H1
          clear H1
          obtain ⟨t690, A8, H⟩ := bind_p H
          have H' := Aside0.mk H
          clear H
          go_wp2_with (first | (go_at_call 20; (with_reducible refine (nat_Right.calls _ _ l0 true _ ?side1 ?side2 A6.out).mono ?_); (case side1 => exact CB HR0); (case side2 => exact HC0.out); rintro e w' ⟨rfl, ⟨nd, rfl⟩⟩) | (go_at_call 20; (with_reducible refine (nat_Right.calls _ _ l1 t690 _ ?side1 ?side2 A8.out).mono ?_); (case side1 => repeat (first | exact (Kd.C_below HR1.out BL) | (with_reducible refine Kd.C_alloc ?_ _) | (with_reducible refine Kd.C_drewN ?_ _) | (with_reducible refine Kd.C_drew ?_))); (case side2 => exact HC1.out); rintro e w' ⟨rfl, ⟨nd, rfl⟩⟩))
          go_meet
          case rel => exact ⟨_, (!t690), (by first | rfl | (simp; done) | (simp [*]; done) | (simp; exact isEmpty_bne _)), H', ⟨by first | omega | exact Nat.le_refl _⟩, ⟨BL⟩⟩
        · replace c7 := Bool.eq_false_iff.mpr c7
          subst c7
          have H1 : (samphirelaw02_NatBack.j0 k l0 l1 true) = some r := by rw [if_neg (show ¬ (false = true) by decide)] at H; exact H
          clear H
          have H := H1
          clear H1
          have H' := Aside0.mk H
          clear H
          go_wp2_with (first | (go_at_call 20; (with_reducible refine (nat_Right.calls _ _ l0 false _ ?side1 ?side2 A6.out).mono ?_); (case side1 => exact CB HR0); (case side2 => exact HC0.out); rintro e w' ⟨rfl, ⟨nd, rfl⟩⟩))
          go_meet
          case rel => exact ⟨_, (true), (by first | rfl | (simp; done) | (simp [*]; done) | (simp; exact isEmpty_bne _)), H', ⟨by first | omega | exact Nat.le_refl _⟩, ⟨BL⟩⟩
  case rest =>
    clear HC3
    try clear c1
    try clear p2
    try clear c4
    try clear c4b0
    try clear c4b1
    try clear c5
    try clear c5b0
    try clear c5b1
    try clear c7
    obtain ⟨kq, x35_2, rfl, HA, HJ2, HB⟩ := hcut
    cases kq with
    | zero => exact absurd HA.out (by simp [samphirelaw02_NatBack.j0])
    | succ kj2 =>
      have H := HA.out
      clear HA
      simp only [samphirelaw02_NatBack.j0] at H
      by_cases c9 : x35_2 = true
      · subst c9
        have H1 : ((samphirelaw02_awake.f kj2).bind fun t691 => (some t691)) = some r := by rw [if_pos rfl] at H; exact H
        clear H
        have H := H1
        clear H1
        obtain ⟨t691, A10, H⟩ := bind_p H
        obtain rfl := Option.some.inj H
        go_wp2_with (first | ((with_reducible refine gate_callee (f := 12) rfl ?_); refine goesL_ (some 36) rfl rfl Tryd.func12 (by kernel_rfl) rfl #[] rfl EQ ?_; (with_reducible refine (samphirelaw02_awake.calls kj2  t691 _ A10.out).mono ?_); rintro e w11 ⟨rfl, hb⟩; refine ⟨_, rfl, ?_⟩; have n0_ := Aside0.mk (below_step BL hb); clear HB; have HB := n0_; clear n0_; (try clear hb); (try clear hb2); (try clear hk); (try clear hi)))
        go_ret
        exact ⟨by first | rfl | (simp [errW_none, errW_some] <;> rfl) | (simp [*, errW_none, errW_some] <;> rfl), BL⟩
      · replace c9 := Bool.eq_false_iff.mpr c9
        subst c9
        have H1 : ((nat_Add.f kj2 l0 l1).bind fun bt692 => ((nat_Sub.f kj2 bt692.1 l1).bind fun bt696 => ((nat_Text.f kj2 l0).bind fun t700 => ((nat_Read.f kj2 t700).bind fun bt701 => (if bt692.2 = 0 then (if bt696.2 = 0 then (if bt701.2 = 0 then ((nat_Cmp.f kj2 bt696.1 l0).bind fun t705 => (if t705 = 0 then ((nat_Cmp.f kj2 bt701.1 l0).bind fun t706 => (if t706 = 0 then ((samphireref02_Same.f kj2 bt696.1 l0).bind fun t707 => (if t707 = true then ((samphireref02_Same.f kj2 bt701.1 l0).bind fun t708 => (samphirelaw02_NatBack.j1 kj2 l0 l1 (!t708))) else (none))) else (none))) else (none))) else (none)) else (none)) else (none)))))) = some r := by rw [if_neg (show ¬ (false = true) by decide)] at H; exact H
        clear H
        have H := H1
        clear H1
        obtain ⟨⟨t692, t693⟩, A12, H⟩ := bind_p H
        dsimp only at H
        obtain ⟨⟨t696, t697⟩, A13, H⟩ := bind_p H
        dsimp only at H
        obtain ⟨t700, A14, H⟩ := bind_p H
        obtain ⟨⟨t701, t702⟩, A15, H⟩ := bind_p H
        dsimp only at H
        have HC16 := Aside0.mk H
        clear H
        go_upto_region 6 with (first | ((with_reducible refine gate_callee (f := 30) rfl ?_); refine goesL_ (some 40) rfl rfl Tryd.func30 (by kernel_rfl) rfl #[.slice A0 l0.length c0, .slice A1 l1.length c1] rfl EQ ?_; (with_reducible refine (nat_Add.calls kj2 _ _ l0 _ _ l1 t692 t693 _ ?side1 ?side2 ?side3 ?side4 A12.out).mono ?_); (case side1 => exact CB HR0); (case side2 => exact HC0.out); (case side3 => exact CB HR1); (case side4 => exact HC1.out); rintro e w17 ⟨v694, rfl, ho0, hb⟩; refine ⟨_, rfl, ?_⟩; have n0_ := Aside0.mk (Kd.R_lower ho0 (below_size BL)); have n1_ := Aside0.mk (below_step BL hb); clear HB; have HO695 := n0_; have HB := n1_; clear n0_ n1_; (try clear hb); (try clear hb2); (try clear hk); (try clear hi); (try clear ho0); obtain ⟨Ao18, co18, eo18⟩ := Kd.R_slice HO695.out; subst eo18) | ((with_reducible refine gate_callee (f := 32) rfl ?_); refine goesL_ (some 46) rfl rfl Tryd.func32 (by kernel_rfl) rfl #[.slice Ao18 t692.length co18, .slice A1 l1.length c1] rfl EQ ?_; (with_reducible refine (nat_Sub.calls kj2 _ _ t692 _ _ l1 t696 t697 _ ?side1 ?side2 ?side3 ?side4 A13.out).mono ?_); (case side1 => exact RR HO695); (case side2 => exact (Kd.R_reads' HO695.out).2.1); (case side3 => exact CB HR1); (case side4 => exact HC1.out); rintro e w19 ⟨v698, rfl, ho0, hb⟩; refine ⟨_, rfl, ?_⟩; have n0_ := Aside0.mk (Kd.R_elder' (RL HO695) (Kd.R_base ho0) hb); have n1_ := Aside0.mk (Kd.R_lower (Kd.R_new' ho0 (Kd.R_lt (RL HO695))) (below_size BL)); have n2_ := Aside0.mk (below_step BL hb); clear HO695; clear HB; have HO695 := n0_; have HO699 := n1_; have HB := n2_; clear n0_ n1_ n2_; (try clear hb); (try clear hb2); (try clear hk); (try clear hi); (try clear ho0)) | ((with_reducible refine gate_callee (f := 27) rfl ?_); refine goesL_ (some 51) rfl rfl Tryd.func27 (by kernel_rfl) rfl #[.slice A0 l0.length c0] rfl EQ ?_; (with_reducible refine (nat_Text.calls kj2 (fun k_ => k_ < w.heap.size) _ _ l0 t700 _ ?side1 A14.out).mono ?_); (case side1 => exact Kd.V_mk HC0.out (Kd.F_below (Kd.C_F (Kd.heap_int .u32) HR0.out) BL)); rintro e w20 ⟨rfl, hb⟩; refine ⟨_, rfl, ?_⟩; have n0_ := Aside0.mk (Kd.R_below (RL HO695) hb); have n1_ := Aside0.mk (Kd.R_below (RL HO699) hb); have n2_ := Aside0.mk (below_step BL hb); clear HO695; clear HO699; clear HB; have HO695 := n0_; have HO699 := n1_; have HB := n2_; clear n0_ n1_ n2_; (try clear hb); (try clear hb2); (try clear hk); (try clear hi)) | ((with_reducible refine gate_callee (f := 22) rfl ?_); refine goesL_ (some 52) rfl rfl Tryd.func22 (by kernel_rfl) rfl #[.string t700] rfl EQ ?_; (with_reducible refine (nat_Read.calls kj2 t700 t701 t702 _ A15.out).mono ?_); rintro e w21 ⟨v703, rfl, ho0, hb⟩; refine ⟨_, rfl, ?_⟩; have n0_ := Aside0.mk (Kd.R_elder' (RL HO695) (Kd.R_base ho0) hb); have n1_ := Aside0.mk (Kd.R_elder' (RL HO699) (Kd.R_base ho0) hb); have n2_ := Aside0.mk (Kd.R_lower (Kd.R_new' (Kd.R_new' ho0 (Kd.R_lt (RL HO695))) (Kd.R_lt (RL HO699))) (below_size BL)); have n3_ := Aside0.mk (below_step BL hb); clear HO695; clear HO699; clear HB; have HO695 := n0_; have HO699 := n1_; have HO704 := n2_; have HB := n3_; clear n0_ n1_ n2_ n3_; (try clear hb); (try clear hb2); (try clear hk); (try clear hi); (try clear ho0)))
        (try simp only [Act.put, List.setIfInBounds_toArray, List.set_cons_zero, List.set_cons_succ])
        go_cut [88] (fun v88 wc => ∃ (kq : Nat) (x88_15 : Bool), v88 = .bool x88_15 ∧ Aside0 (samphirelaw02_NatBack.j1 kq l0 l1 x88_15 = some r) ∧ Aside0 (kq ≤ kj2) ∧ Aside0 (Below w.heap.size w wc))
        case first =>
          have H := HC16.out
          clear HC16
          obtain ⟨c22, H⟩ := ite_p H
          have c22b0 : (t693 == 0) = true := beq_iff_eq.mpr c22
          have c22b1 : (t693 != 0) = false := bne_eq_false_iff_eq.mpr c22
          clear c22
          (first | rw [c22b0] | (simp only [i64_w, i32_w]; rw [c22b0]) | skip)
          obtain ⟨c23, H⟩ := ite_p H
          have c23b0 : (t697 == 0) = true := beq_iff_eq.mpr c23
          have c23b1 : (t697 != 0) = false := bne_eq_false_iff_eq.mpr c23
          clear c23
          obtain ⟨c24, H⟩ := ite_p H
          have c24b0 : (t702 == 0) = true := beq_iff_eq.mpr c24
          have c24b1 : (t702 != 0) = false := bne_eq_false_iff_eq.mpr c24
          clear c24
          obtain ⟨t705, A25, H⟩ := bind_p H
          obtain ⟨c26, H⟩ := ite_p H
          have c26b0 : (t705 == 0) = true := beq_iff_eq.mpr c26
          have c26b1 : (t705 != 0) = false := bne_eq_false_iff_eq.mpr c26
          clear c26
          obtain ⟨t706, A27, H⟩ := bind_p H
          obtain ⟨c28, H⟩ := ite_p H
          have c28b0 : (t706 == 0) = true := beq_iff_eq.mpr c28
          have c28b1 : (t706 != 0) = false := bne_eq_false_iff_eq.mpr c28
          clear c28
          obtain ⟨t707, A29, H⟩ := bind_p H
          by_cases c30 : t707 = true
          · subst c30
            have H1 : ((samphireref02_Same.f kj2 t701 l0).bind fun t708 => (samphirelaw02_NatBack.j1 kj2 l0 l1 (!t708))) = some r := by rw [if_pos rfl] at H; exact H
            clear H
            have H := H1
            clear H1
            obtain ⟨t708, A31, H⟩ := bind_p H
            have H' := Aside0.mk H
            clear H
            obtain ⟨Ao32, co32, eo32⟩ := Kd.R_slice HO699.out
            subst eo32
            go_wp2_with (first | (go_at_call 33; (with_reducible refine (nat_Cmp.calls kj2 _ _ t696 _ _ l0 t705 _ ?side1 ?side2 ?side3 ?side4 A25.out).mono ?_); (case side1 => exact RR HO699); (case side2 => exact (Kd.R_reads' HO699.out).2.1); (case side3 => exact CB HR0); (case side4 => exact HC0.out); rintro e w33 ⟨rfl, hb⟩; have n0_ := Aside0.mk (Kd.R_below (RL HO695) hb); have n1_ := Aside0.mk (Kd.R_below (RL HO699) hb); have n2_ := Aside0.mk (Kd.R_below (RL HO704) hb); have n3_ := Aside0.mk (below_step BL hb); clear HO695; clear HO699; clear HO704; clear HB; have HO695 := n0_; have HO699 := n1_; have HO704 := n2_; have HB := n3_; clear n0_ n1_ n2_ n3_; (try clear hb); (try clear hb2); (try clear hk); (try clear hi); obtain ⟨Ao34, co34, eo34⟩ := Kd.R_slice HO704.out; subst eo34) | (go_at_call 33; (with_reducible refine (nat_Cmp.calls kj2 _ _ t701 _ _ l0 t706 _ ?side1 ?side2 ?side3 ?side4 A27.out).mono ?_); (case side1 => exact RR HO704); (case side2 => exact (Kd.R_reads' HO704.out).2.1); (case side3 => exact CB HR0); (case side4 => exact HC0.out); rintro e w35 ⟨rfl, hb⟩; have n0_ := Aside0.mk (Kd.R_below (RL HO695) hb); have n1_ := Aside0.mk (Kd.R_below (RL HO699) hb); have n2_ := Aside0.mk (Kd.R_below (RL HO704) hb); have n3_ := Aside0.mk (below_step BL hb); clear HO695; clear HO699; clear HO704; clear HB; have HO695 := n0_; have HO699 := n1_; have HO704 := n2_; have HB := n3_; clear n0_ n1_ n2_ n3_; (try clear hb); (try clear hb2); (try clear hk); (try clear hi)) | (go_at_call 19; (with_reducible refine (samphireref02_Same.calls kj2 _ _ t696 _ _ l0 true _ ?side1 ?side2 ?side3 ?side4 A29.out).mono ?_); (case side1 => exact RR HO699); (case side2 => exact (Kd.R_reads' HO699.out).2.1); (case side3 => exact CB HR0); (case side4 => exact HC0.out); rintro e w' ⟨rfl, ⟨nd, rfl⟩⟩) | (go_at_call 19; (with_reducible refine (samphireref02_Same.calls kj2 _ _ t701 _ _ l0 t708 _ ?side1 ?side2 ?side3 ?side4 A31.out).mono ?_); (case side1 => exact RR HO704); (case side2 => exact (Kd.R_reads' HO704.out).2.1); (case side3 => repeat (first | exact (Kd.C_below HR0.out BL) | (with_reducible refine Kd.C_alloc ?_ _) | (with_reducible refine Kd.C_drewN ?_ _) | (with_reducible refine Kd.C_drew ?_))); (case side4 => exact HC0.out); rintro e w' ⟨rfl, ⟨nd, rfl⟩⟩))
            go_meet
            case rel => exact ⟨_, (!t708), (by first | rfl | (simp; done) | (simp [*]; done) | (simp; exact isEmpty_bne _)), H', ⟨by have := HJ2.out; first | omega | exact Nat.le_refl _⟩, ⟨BL⟩⟩
          · replace c30 := Bool.eq_false_iff.mpr c30
            subst c30
            have H1 : (none) = some r := by rw [if_neg (show ¬ (false = true) by decide)] at H; exact H
            clear H
            have H := H1
            clear H1
            cases H
        case rest =>
          clear HC16
          try clear c1
          try clear c2
          try clear p2
          try clear c3
          try clear c4
          try clear c4b0
          try clear c4b1
          try clear c5
          try clear c5b0
          try clear c5b1
          try clear c7
          try clear c9
          try clear c12
          try clear c22
          try clear c22b0
          try clear c22b1
          try clear c23
          try clear c23b0
          try clear c23b1
          try clear c24
          try clear c24b0
          try clear c24b1
          try clear c26
          try clear c26b0
          try clear c26b1
          try clear c27
          try clear c28
          try clear c28b0
          try clear c28b1
          try clear c30
          try clear c32
          try clear p2
          obtain ⟨kq, x88_15, rfl, HA, HJ15, HB⟩ := hcut
          cases kq with
          | zero => exact absurd HA.out (by simp [samphirelaw02_NatBack.j1])
          | succ kj15 =>
            have H := HA.out
            clear HA
            simp only [samphirelaw02_NatBack.j1] at H
            by_cases c36 : x88_15 = true
            · subst c36
              have H1 : (none) = some r := by rw [if_pos rfl] at H; exact H
              clear H
              have H := H1
              clear H1
              cases H
            · replace c36 := Bool.eq_false_iff.mpr c36
              subst c36
              have H1 : ((nat_Div.f kj15 l0 l1).bind fun bt709 => (if bt709.2.2 = 0 then ((nat_Mul.f kj15 bt709.1 l1).bind fun bt717 => ((nat_Add.f kj15 bt717.1 bt709.2.1).bind fun bt721 => (if bt717.2 = 0 then (if bt721.2 = 0 then ((samphireref02_Same.f kj15 bt721.1 l0).bind fun t725 => (if t725 = true then ((nat_Cmp.f kj15 bt709.2.1 l1).bind fun t726 => (if t726 < 0 then ((samphirelaw02_awake.f kj15).bind fun t727 => (some t727)) else (none))) else (none))) else (none)) else (none)))) else (if (l1.length : Int) = 0 then ((samphirelaw02_awake.f kj15).bind fun t716 => (some t716)) else (none)))) = some r := by rw [if_neg (show ¬ (false = true) by decide)] at H; exact H
              clear H
              have H := H1
              clear H1
              obtain ⟨⟨t709, t710, t711⟩, A37, H⟩ := bind_p H
              dsimp only at H
              by_cases c38 : t711 = 0
              · rw [if_pos c38] at H
                have c38b0 : (t711 == 0) = true := beq_iff_eq.mpr c38
                have c38b1 : (t711 != 0) = false := bne_eq_false_iff_eq.mpr c38
                clear c38
                obtain ⟨⟨t717, t718⟩, A39, H⟩ := bind_p H
                dsimp only at H
                obtain ⟨⟨t721, t722⟩, A40, H⟩ := bind_p H
                dsimp only at H
                obtain ⟨c41, H⟩ := ite_p H
                have c41b0 : (t718 == 0) = true := beq_iff_eq.mpr c41
                have c41b1 : (t718 != 0) = false := bne_eq_false_iff_eq.mpr c41
                clear c41
                obtain ⟨c42, H⟩ := ite_p H
                have c42b0 : (t722 == 0) = true := beq_iff_eq.mpr c42
                have c42b1 : (t722 != 0) = false := bne_eq_false_iff_eq.mpr c42
                clear c42
                obtain ⟨t725, A43, H⟩ := bind_p H
                by_cases c44 : t725 = true
                · subst c44
                  have H1 : ((nat_Cmp.f kj15 t710 l1).bind fun t726 => (if t726 < 0 then ((samphirelaw02_awake.f kj15).bind fun t727 => (some t727)) else (none))) = some r := by rw [if_pos rfl] at H; exact H
                  clear H
                  have H := H1
                  clear H1
                  obtain ⟨t726, A45, H⟩ := bind_p H
                  obtain ⟨c46, H⟩ := ite_p H
                  have c46b0 : decide (t726 < 0) = true := decide_eq_true c46
                  clear c46
                  obtain ⟨t727, A47, H⟩ := bind_p H
                  obtain rfl := Option.some.inj H
                  go_wp2_with (first | ((with_reducible refine gate_callee (f := 13) rfl ?_); refine goesL_ (some 92) rfl rfl Tryd.func13 (by kernel_rfl) rfl #[.slice A0 l0.length c0, .slice A1 l1.length c1] rfl EQ ?_; (with_reducible refine (nat_Div.calls kj15 _ _ l0 _ _ l1 t709 t710 t711 _ ?side1 ?side2 ?side3 ?side4 A37.out).mono ?_); (case side1 => exact CB HR0); (case side2 => exact HC0.out); (case side3 => exact CB HR1); (case side4 => exact HC1.out); rintro e w48 ⟨v712, v714, rfl, ho0, ho1, hb⟩; refine ⟨_, rfl, ?_⟩; have n0_ := Aside0.mk (Kd.R_lower ho0 (below_size BL)); have n1_ := Aside0.mk (Kd.R_lower ho1 (below_size BL)); have n2_ := Aside0.mk (below_step BL hb); clear HB; have HO713 := n0_; have HO715 := n1_; have HB := n2_; clear n0_ n1_ n2_; (try clear hb); (try clear hb2); (try clear hk); (try clear hi); (try clear ho0); (try clear ho1); obtain ⟨Ao49, co49, eo49⟩ := Kd.R_slice HO713.out; subst eo49) | ((with_reducible refine gate_callee (f := 31) rfl ?_); refine goesL_ (some 107) rfl rfl Tryd.func31 (by kernel_rfl) rfl #[.slice Ao49 t709.length co49, .slice A1 l1.length c1] rfl EQ ?_; (with_reducible refine (nat_Mul.calls kj15 _ _ t709 _ _ l1 t717 t718 _ ?side1 ?side2 ?side3 ?side4 A39.out).mono ?_); (case side1 => exact RR HO713); (case side2 => exact (Kd.R_reads' HO713.out).2.1); (case side3 => exact CB HR1); (case side4 => exact HC1.out); rintro e w50 ⟨v719, rfl, ho0, hb⟩; refine ⟨_, rfl, ?_⟩; have n0_ := Aside0.mk (Kd.R_elder' (RL HO713) (Kd.R_base ho0) hb); have n1_ := Aside0.mk (Kd.R_elder' (RL HO715) (Kd.R_base ho0) hb); have n2_ := Aside0.mk (Kd.R_lower (Kd.R_new' (Kd.R_new' ho0 (Kd.R_lt (RL HO713))) (Kd.R_lt (RL HO715))) (below_size BL)); have n3_ := Aside0.mk (below_step BL hb); clear HO713; clear HO715; clear HB; have HO713 := n0_; have HO715 := n1_; have HO720 := n2_; have HB := n3_; clear n0_ n1_ n2_ n3_; (try clear hb); (try clear hb2); (try clear hk); (try clear hi); (try clear ho0); obtain ⟨Ao51, co51, eo51⟩ := Kd.R_slice HO720.out; subst eo51; obtain ⟨Ao52, co52, eo52⟩ := Kd.R_slice HO715.out; subst eo52) | ((with_reducible refine gate_callee (f := 30) rfl ?_); refine goesL_ (some 113) rfl rfl Tryd.func30 (by kernel_rfl) rfl #[.slice Ao51 t717.length co51, .slice Ao52 t710.length co52] rfl EQ ?_; (with_reducible refine (nat_Add.calls kj15 _ _ t717 _ _ t710 t721 t722 _ ?side1 ?side2 ?side3 ?side4 A40.out).mono ?_); (case side1 => exact RR HO720); (case side2 => exact (Kd.R_reads' HO720.out).2.1); (case side3 => exact RR HO715); (case side4 => exact (Kd.R_reads' HO715.out).2.1); rintro e w53 ⟨v723, rfl, ho0, hb⟩; refine ⟨_, rfl, ?_⟩; have n0_ := Aside0.mk (Kd.R_elder' (RL HO713) (Kd.R_base ho0) hb); have n1_ := Aside0.mk (Kd.R_elder' (RL HO715) (Kd.R_base ho0) hb); have n2_ := Aside0.mk (Kd.R_elder' (RL HO720) (Kd.R_base ho0) hb); have n3_ := Aside0.mk (Kd.R_lower (Kd.R_new' (Kd.R_new' (Kd.R_new' ho0 (Kd.R_lt (RL HO713))) (Kd.R_lt (RL HO715))) (Kd.R_lt (RL HO720))) (below_size BL)); have n4_ := Aside0.mk (below_step BL hb); clear HO713; clear HO715; clear HO720; clear HB; have HO713 := n0_; have HO715 := n1_; have HO720 := n2_; have HO724 := n3_; have HB := n4_; clear n0_ n1_ n2_ n3_ n4_; (try clear hb); (try clear hb2); (try clear hk); (try clear hi); (try clear ho0); obtain ⟨Ao54, co54, eo54⟩ := Kd.R_slice HO724.out; subst eo54) | (go_at_call 19; (with_reducible refine (samphireref02_Same.calls kj15 _ _ t721 _ _ l0 true _ ?side1 ?side2 ?side3 ?side4 A43.out).mono ?_); (case side1 => exact RR HO724); (case side2 => exact (Kd.R_reads' HO724.out).2.1); (case side3 => exact CB HR0); (case side4 => exact HC0.out); rintro e w' ⟨rfl, ⟨nd, rfl⟩⟩) | (go_at_call 33; (with_reducible refine (nat_Cmp.calls kj15 _ _ t710 _ _ l1 t726 _ ?side1 ?side2 ?side3 ?side4 A45.out).mono ?_); (case side1 => exact RR HO715); (case side2 => exact (Kd.R_reads' HO715.out).2.1); (case side3 => repeat (first | exact (Kd.C_below HR1.out BL) | (with_reducible refine Kd.C_alloc ?_ _) | (with_reducible refine Kd.C_drewN ?_ _) | (with_reducible refine Kd.C_drew ?_))); (case side4 => exact HC1.out); rintro e w55 ⟨rfl, hb⟩; have n0_ := Aside0.mk (Kd.R_below (RL HO713) hb); have n1_ := Aside0.mk (Kd.R_below (RL HO715) hb); have n2_ := Aside0.mk (Kd.R_below (RL HO720) hb); have n3_ := Aside0.mk (Kd.R_below (RL HO724) hb); have n4_ := Aside0.mk (below_step BL hb); clear HO713; clear HO715; clear HO720; clear HO724; clear HB; have HO713 := n0_; have HO715 := n1_; have HO720 := n2_; have HO724 := n3_; have HB := n4_; clear n0_ n1_ n2_ n3_ n4_; (try clear hb); (try clear hb2); (try clear hk); (try clear hi)) | (go_at_call 12; (with_reducible refine (samphirelaw02_awake.calls kj15  t727 _ A47.out).mono ?_); rintro e w56 ⟨rfl, hb⟩; have n0_ := Aside0.mk (Kd.R_below (RL HO713) hb); have n1_ := Aside0.mk (Kd.R_below (RL HO715) hb); have n2_ := Aside0.mk (Kd.R_below (RL HO720) hb); have n3_ := Aside0.mk (Kd.R_below (RL HO724) hb); have n4_ := Aside0.mk (below_step BL hb); clear HO713; clear HO715; clear HO720; clear HO724; clear HB; have HO713 := n0_; have HO715 := n1_; have HO720 := n2_; have HO724 := n3_; have HB := n4_; clear n0_ n1_ n2_ n3_ n4_; (try clear hb); (try clear hb2); (try clear hk); (try clear hi)))
                  go_ret
                  exact ⟨by first | rfl | (simp [errW_none, errW_some] <;> rfl) | (simp [*, errW_none, errW_some] <;> rfl), BL⟩
                · replace c44 := Bool.eq_false_iff.mpr c44
                  subst c44
                  have H1 : (none) = some r := by rw [if_neg (show ¬ (false = true) by decide)] at H; exact H
                  clear H
                  have H := H1
                  clear H1
                  cases H
              · rw [if_neg c38] at H
                have c38b0 : (t711 == 0) = false := beq_eq_false_iff_ne.mpr c38
                have c38b1 : (t711 != 0) = true := bne_iff_ne.mpr c38
                obtain ⟨c57, H⟩ := ite_p H
                have c57b0 : ((l1.length : Int) == 0) = true := beq_iff_eq.mpr c57
                have c57b1 : ((l1.length : Int) != 0) = false := bne_eq_false_iff_eq.mpr c57
                clear c57
                obtain ⟨t716, A58, H⟩ := bind_p H
                obtain rfl := Option.some.inj H
                go_wp2_with (first | ((with_reducible refine gate_callee (f := 13) rfl ?_); refine goesL_ (some 92) rfl rfl Tryd.func13 (by kernel_rfl) rfl #[.slice A0 l0.length c0, .slice A1 l1.length c1] rfl EQ ?_; (with_reducible refine (nat_Div.calls kj15 _ _ l0 _ _ l1 t709 t710 t711 _ ?side1 ?side2 ?side3 ?side4 A37.out).mono ?_); (case side1 => exact CB HR0); (case side2 => exact HC0.out); (case side3 => exact CB HR1); (case side4 => exact HC1.out); rintro e w59 ⟨v712, v714, rfl, ho0, ho1, hb⟩; refine ⟨_, rfl, ?_⟩; have n0_ := Aside0.mk (Kd.R_lower ho0 (below_size BL)); have n1_ := Aside0.mk (Kd.R_lower ho1 (below_size BL)); have n2_ := Aside0.mk (below_step BL hb); clear HB; have HO713 := n0_; have HO715 := n1_; have HB := n2_; clear n0_ n1_ n2_; (try clear hb); (try clear hb2); (try clear hk); (try clear hi); (try clear ho0); (try clear ho1)) | (go_at_call 12; (with_reducible refine (samphirelaw02_awake.calls kj15  t716 _ A58.out).mono ?_); rintro e w60 ⟨rfl, hb⟩; have n0_ := Aside0.mk (Kd.R_below (RL HO713) hb); have n1_ := Aside0.mk (Kd.R_below (RL HO715) hb); have n2_ := Aside0.mk (below_step BL hb); clear HO713; clear HO715; clear HB; have HO713 := n0_; have HO715 := n1_; have HB := n2_; clear n0_ n1_ n2_; (try clear hb); (try clear hb2); (try clear hk); (try clear hi)))
                go_ret
                exact ⟨by first | rfl | (simp [errW_none, errW_some] <;> rfl) | (simp [*, errW_none, errW_some] <;> rfl), BL⟩

/-- THE ONE PURE STATEMENT of samphirelaw02_NatBack: yours. -/
theorem samphirelaw02_NatBack.walk (P : samphirelaw02_NatBack.Pure) (a0 : Option Addr) (len0 cap0 : Nat) (z0 : List Int) (a1 : Option Addr) (len1 cap1 : Nat) (z1 : List Int) (w : World) (w0 : (a0 = none ∧ len0 = 0 ∧ cap0 = 0 ∧ z0 = []) ∨ ∃ x, a0 = some x ∧ len0 ≤ cap0 ∧ cap0 ≤ maxLen ∧ z0.length = cap0 ∧ (∀ i, i < z0.length → w.cell? (x.add i) = some (.int .u32 (z0.getD i 0))) ∧ ∀ n ∈ z0, (Lit.int .u32 n).wf = true) (y0 : len0 * 4 ≤ 140737488351232) (w1 : (a1 = none ∧ len1 = 0 ∧ cap1 = 0 ∧ z1 = []) ∨ ∃ x, a1 = some x ∧ len1 ≤ cap1 ∧ cap1 ≤ maxLen ∧ z1.length = cap1 ∧ (∀ i, i < z1.length → w.cell? (x.add i) = some (.int .u32 (z1.getD i 0))) ∧ ∀ n ∈ z1, (Lit.int .u32 n).wf = true) (y1 : len1 * 4 ≤ 140737488351232) :
    Calls Tryd.prog 7 #[.slice a0 len0 cap0, .slice a1 len1 cap1] w fun e w' => e = .returned (.bool true) ∧ Below w.heap.size w w' := by
  obtain ⟨l0, rfl, hr0, hm0, hw0, hc0⟩ := ReadsInt.ofRowC w0
  obtain ⟨l1, rfl, hr1, hm1, hw1, hc1⟩ := ReadsInt.ofRowC w1
  obtain ⟨k, h⟩ := P l0 l1 hm0 y0 hw0 hm1 y1 hw1
  refine (samphirelaw02_NatBack.calls k _ _ l0 _ _ l1 true w (Kd.C_of_reads (d := (0 : Int)) (h1 := fun _ => rfl) hr0) hc0 (Kd.C_of_reads (d := (0 : Int)) (h1 := fun _ => rfl) hr1) hc1 h).mono ?_
  rintro e w' ⟨rfl, hd⟩
  exact ⟨rfl, hd⟩

end Go.Proofs.YtdgbeejhccogpaaDoor.P
