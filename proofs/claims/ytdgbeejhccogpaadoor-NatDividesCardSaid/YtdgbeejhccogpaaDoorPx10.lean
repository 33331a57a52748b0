-- Printed by this session's own program out of the translation.
import Derived.Test.YtdgbeejhccogpaaDoorPx0
import Derived.Test.YtdgbeejhccogpaaDoorPx2
import Derived.Test.YtdgbeejhccogpaaDoorPx3
import Derived.Test.YtdgbeejhccogpaaDoorPx5
import Derived.Test.YtdgbeejhccogpaaDoorPx6
import Derived.Test.YtdgbeejhccogpaaDoorPx9
namespace Go.Proofs.YtdgbeejhccogpaaDoor.P
open Go.RowKit Go.Proofs.YtdgbeejhccogpaaDoorW.PrintWords Go.Proofs.YtdgbeejhccogpaaDoorW.PrintLast Go.Proofs.YtdgbeejhccogpaaDoorW.PrintMore
attribute [local go_sem] max2_int min2_int max_two min_two max_three min_three max_four min_four   -- for this text's walks alone
set_option linter.unusedVariables false
set_option linter.unusedSimpArgs false

/-! ### samphirelaw02_NatDivides: function 3 -/
set_option maxHeartbeats 8000000 in
set_option maxRecDepth 100000 in
theorem samphirelaw02_NatDivides.calls (k : Nat) (A0 : Option Addr) (c0 : Nat) (l0 : List Int) (A1 : Option Addr) (c1 : Nat) (l1 : List Int) (r : Bool) (w : World) (hr0 : Kd.C (Kd.int .u32) w A0 l0.length l0) (hc0 : l0.length ≤ c0) (hr1 : Kd.C (Kd.int .u32) w A1 l1.length l1) (hc1 : l1.length ≤ c1) (h : samphirelaw02_NatDivides.f k l0 l1 = some r) :
    Calls Tryd.prog 3 #[.slice A0 l0.length c0, .slice A1 l1.length c1] w fun e w' => e = .returned (.bool r) ∧ Below w.heap.size w w' := by
  have HR0 := Aside0.mk hr0
  have HC0 := Aside0.mk hc0
  clear hr0 hc0
  have HR1 := Aside0.mk hr1
  have HC1 := Aside0.mk hc1
  clear hr1 hc1
  have HB := Aside0.mk (Below.refl w.heap.size w)
  have H : ((samphireref02_Small.f l0).bind fun t460 => (if t460 = true then ((samphireref02_Small.f l1).bind fun t461 => (samphirelaw02_NatDivides.j0 k l0 l1 (!t461))) else (samphirelaw02_NatDivides.j0 k l0 l1 true))) = some r := h
  clear h
  have HC3 := Aside0.mk H
  clear H
  go_enter Tryd.func3, Tryd.ntmps3
  go_upto_region 1 with (fail)
  go_cut [19] (fun v19 wc => ∃ (kq : Nat) (x19_2 : Bool), v19 = .bool x19_2 ∧ Aside0 (samphirelaw02_NatDivides.j0 kq l0 l1 x19_2 = some r) ∧ Aside0 (kq ≤ k) ∧ Aside0 (Below w.heap.size w wc))
  case first =>
    have H := HC3.out
    clear HC3
    obtain ⟨t460, A4, H⟩ := bind_p H
    by_cases c5 : t460 = true
    · subst c5
      have H1 : ((samphireref02_Small.f l1).bind fun t461 => (samphirelaw02_NatDivides.j0 k l0 l1 (!t461))) = some r := by rw [if_pos rfl] at H; exact H
      clear H
      have H := H1
      clear H1
      obtain ⟨t461, A6, H⟩ := bind_p H
      have H' := Aside0.mk H
      clear H
      go_wp2_with (first | ((with_reducible refine gate_callee (f := 11) rfl ?_); refine goesL_ (some 13) rfl rfl Tryd.func11 (by kernel_rfl) rfl #[.slice A0 l0.length c0] rfl EQ ?_; (with_reducible refine (samphireref02_Small.calls _ _ l0 true _ ?side1 ?side2 A4.out).mono ?_); (case side1 => exact CB HR0); (case side2 => exact HC0.out); rintro e w' ⟨rfl, ⟨nd, rfl⟩⟩; refine ⟨_, rfl, ?_⟩) | (go_at_call 11; (with_reducible refine (samphireref02_Small.calls _ _ l1 t461 _ ?side1 ?side2 A6.out).mono ?_); (case side1 => repeat (first | exact (Kd.C_below HR1.out BL) | (with_reducible refine Kd.C_alloc ?_ _) | (with_reducible refine Kd.C_drewN ?_ _) | (with_reducible refine Kd.C_drew ?_))); (case side2 => exact HC1.out); rintro e w' ⟨rfl, ⟨nd, rfl⟩⟩))
      go_meet
      case rel => exact ⟨_, (!t461), (by first | rfl | (simp; done) | (simp [*]; done) | (simp; exact isEmpty_bne _)), H', ⟨by first | omega | exact Nat.le_refl _⟩, ⟨BL⟩⟩
    · replace c5 := Bool.eq_false_iff.mpr c5
      subst c5
      have H1 : (samphirelaw02_NatDivides.j0 k l0 l1 true) = some r := by rw [if_neg (show ¬ (false = true) by decide)] at H; exact H
      clear H
      have H := H1
      clear H1
      have H' := Aside0.mk H
      clear H
      go_wp2_with (first | ((with_reducible refine gate_callee (f := 11) rfl ?_); refine goesL_ (some 13) rfl rfl Tryd.func11 (by kernel_rfl) rfl #[.slice A0 l0.length c0] rfl EQ ?_; (with_reducible refine (samphireref02_Small.calls _ _ l0 false _ ?side1 ?side2 A4.out).mono ?_); (case side1 => exact CB HR0); (case side2 => exact HC0.out); rintro e w' ⟨rfl, ⟨nd, rfl⟩⟩; refine ⟨_, rfl, ?_⟩))
      go_meet
      case rel => exact ⟨_, (true), (by first | rfl | (simp; done) | (simp [*]; done) | (simp; exact isEmpty_bne _)), H', ⟨by first | omega | exact Nat.le_refl _⟩, ⟨BL⟩⟩
  case rest =>
    clear HC3
    try clear c1
    try clear p2
    try clear c3
    try clear c5
    obtain ⟨kq, x19_2, rfl, HA, HJ2, HB⟩ := hcut
    cases kq with
    | zero => exact absurd HA.out (by simp [samphirelaw02_NatDivides.j0])
    | succ kj2 =>
      have H := HA.out
      clear HA
      simp only [samphirelaw02_NatDivides.j0] at H
      by_cases c7 : x19_2 = true
      · subst c7
        have H1 : ((samphirelaw02_awake.f kj2).bind fun t462 => (some t462)) = some r := by rw [if_pos rfl] at H; exact H
        clear H
        have H := H1
        clear H1
        obtain ⟨t462, A8, H⟩ := bind_p H
        obtain rfl := Option.some.inj H
        go_wp2_with (first | ((with_reducible refine gate_callee (f := 12) rfl ?_); refine goesL_ (some 20) rfl rfl Tryd.func12 (by kernel_rfl) rfl #[] rfl EQ ?_; (with_reducible refine (samphirelaw02_awake.calls kj2  t462 _ A8.out).mono ?_); rintro e w9 ⟨rfl, hb⟩; refine ⟨_, rfl, ?_⟩; have n0_ := Aside0.mk (below_step BL hb); clear HB; have HB := n0_; clear n0_; (try clear hb); (try clear hb2); (try clear hk); (try clear hi)))
        go_ret
        exact ⟨by first | rfl | (simp [errW_none, errW_some] <;> rfl) | (simp [*, errW_none, errW_some] <;> rfl), BL⟩
      · replace c7 := Bool.eq_false_iff.mpr c7
        subst c7
        have H1 : ((nat_Div.f kj2 l0 l1).bind fun bt463 => ((nat_Gcd.f kj2 l0 l1).bind fun bt470 => ((samphireref02_Right.f l0).bind fun t474 => (if t474 = true then ((samphireref02_Right.f l1).bind fun t475 => (samphirelaw02_NatDivides.j1 kj2 l0 l1 bt463.1 bt463.2.1 bt463.2.2 bt470.1 bt470.2 (!t475))) else (samphirelaw02_NatDivides.j1 kj2 l0 l1 bt463.1 bt463.2.1 bt463.2.2 bt470.1 bt470.2 true))))) = some r := by rw [if_neg (show ¬ (false = true) by decide)] at H; exact H
        clear H
        have H := H1
        clear H1
        obtain ⟨⟨t463, t464, t465⟩, A10, H⟩ := bind_p H
        dsimp only at H
        obtain ⟨⟨t470, t473⟩, A11, H⟩ := bind_p H
        dsimp only at H
        have HC12 := Aside0.mk H
        clear H
        go_upto_region 5 with (first | ((with_reducible refine gate_callee (f := 13) rfl ?_); refine goesL_ (some 24) rfl rfl Tryd.func13 (by kernel_rfl) rfl #[.slice A0 l0.length c0, .slice A1 l1.length c1] rfl EQ ?_; (with_reducible refine (nat_Div.calls kj2 _ _ l0 _ _ l1 t463 t464 t465 _ ?side1 ?side2 ?side3 ?side4 A10.out).mono ?_); (case side1 => exact CB HR0); (case side2 => exact HC0.out); (case side3 => exact CB HR1); (case side4 => exact HC1.out); rintro e w13 ⟨v466, v468, rfl, ho0, ho1, hb⟩; refine ⟨_, rfl, ?_⟩; have n0_ := Aside0.mk (Kd.R_lower ho0 (below_size BL)); have n1_ := Aside0.mk (Kd.R_lower ho1 (below_size BL)); have n2_ := Aside0.mk (below_step BL hb); clear HB; have HO467 := n0_; have HO469 := n1_; have HB := n2_; clear n0_ n1_ n2_; (try clear hb); (try clear hb2); (try clear hk); (try clear hi); (try clear ho0); (try clear ho1)) | ((with_reducible refine gate_callee (f := 14) rfl ?_); refine goesL_ (some 31) rfl rfl Tryd.func14 (by kernel_rfl) rfl #[.slice A0 l0.length c0, .slice A1 l1.length c1] rfl EQ ?_; (with_reducible refine (nat_Gcd.calls kj2 (fun k_ => k_ < w.heap.size) _ _ l0 (fun k_ => k_ < w.heap.size) _ _ l1 t470 t473 _ ?side1 ?side2 A11.out).mono ?_); (case side1 => exact Kd.V_mk HC0.out (Kd.F_below (Kd.C_F (Kd.heap_int .u32) HR0.out) BL)); (case side2 => exact Kd.V_mk HC1.out (Kd.F_below (Kd.C_F (Kd.heap_int .u32) HR1.out) BL)); rintro e w14 ⟨v471, rfl, ho0, hb⟩; refine ⟨_, rfl, ?_⟩; have n0_ := Aside0.mk (Kd.R_elder' (RL HO467) (Kd.R_base ho0) hb); have n1_ := Aside0.mk (Kd.R_elder' (RL HO469) (Kd.R_base ho0) hb); have n2_ := Aside0.mk (Kd.R_lower (Kd.R_new' (Kd.R_new' (Kd.R_mono (ok' := fun k_ => True) ho0 (fun _ hk_ => trivial)) (Kd.R_lt (RL HO467))) (Kd.R_lt (RL HO469))) (below_size BL)); have n3_ := Aside0.mk (below_step BL hb); clear HO467; clear HO469; clear HB; have HO467 := n0_; have HO469 := n1_; have HO472 := n2_; have HB := n3_; clear n0_ n1_ n2_ n3_; (try clear hb); (try clear hb2); (try clear hk); (try clear hi); (try clear ho0)))
        (try simp only [Act.put, List.setIfInBounds_toArray, List.set_cons_zero, List.set_cons_succ])
        go_cut [41] (fun v41 wc => ∃ (kq : Nat) (x41_11 : Bool), v41 = .bool x41_11 ∧ Aside0 (samphirelaw02_NatDivides.j1 kq l0 l1 t463 t464 t465 t470 t473 x41_11 = some r) ∧ Aside0 (kq ≤ kj2) ∧ Aside0 (Kd.R (Kd.int .u32) 36 wc w.heap.size (fun k_ => some k_ ≠ (v468 : Value).ownBlock ∧ some k_ ≠ (v471 : Value).ownBlock) v466 t463) ∧ Aside0 (Kd.R (Kd.int .u32) 36 wc w.heap.size (fun k_ => some k_ ≠ (v466 : Value).ownBlock ∧ some k_ ≠ (v471 : Value).ownBlock) v468 t464) ∧ Aside0 (Kd.R (Kd.int .u32) 36 wc w.heap.size (fun k_ => some k_ ≠ (v466 : Value).ownBlock ∧ some k_ ≠ (v468 : Value).ownBlock) v471 t470) ∧ Aside0 (Below w.heap.size w wc))
        case first =>
          have H := HC12.out
          clear HC12
          obtain ⟨t474, A15, H⟩ := bind_p H
          by_cases c16 : t474 = true
          · subst c16
            have H1 : ((samphireref02_Right.f l1).bind fun t475 => (samphirelaw02_NatDivides.j1 kj2 l0 l1 t463 t464 t465 t470 t473 (!t475))) = some r := by rw [if_pos rfl] at H; exact H
            clear H
            have H := H1
            clear H1
            obtain ⟨t475, A17, H⟩ := bind_p H
            have H' := Aside0.mk H
            clear H
            go_wp2_with (first | ((with_reducible refine gate_callee (f := 15) rfl ?_); refine goesL_ (some 35) rfl rfl Tryd.func15 (by kernel_rfl) rfl #[.slice A0 l0.length c0] rfl EQ ?_; (with_reducible refine (samphireref02_Right.calls _ _ l0 true _ ?side1 ?side2 A15.out).mono ?_); (case side1 => exact CB HR0); (case side2 => exact HC0.out); rintro e w' ⟨rfl, ⟨nd, rfl⟩⟩; refine ⟨_, rfl, ?_⟩) | (go_at_call 15; (with_reducible refine (samphireref02_Right.calls _ _ l1 t475 _ ?side1 ?side2 A17.out).mono ?_); (case side1 => repeat (first | exact (Kd.C_below HR1.out BL) | (with_reducible refine Kd.C_alloc ?_ _) | (with_reducible refine Kd.C_drewN ?_ _) | (with_reducible refine Kd.C_drew ?_))); (case side2 => exact HC1.out); rintro e w' ⟨rfl, ⟨nd, rfl⟩⟩))
            go_meet
            case rel => exact ⟨_, (!t475), (by first | rfl | (simp; done) | (simp [*]; done) | (simp; exact isEmpty_bne _)), H', ⟨by have := HJ2.out; first | omega | exact Nat.le_refl _⟩, ⟨by (with_reducible repeat (first | apply Kd.R_alloc | apply Kd.R_drewN | apply Kd.R_drew)); exact HO467.out⟩, ⟨by (with_reducible repeat (first | apply Kd.R_alloc | apply Kd.R_drewN | apply Kd.R_drew)); exact HO469.out⟩, ⟨by (with_reducible repeat (first | apply Kd.R_alloc | apply Kd.R_drewN | apply Kd.R_drew)); exact Kd.R_mono HO472.out (fun _ hk => ⟨hk.1.2, hk.2⟩)⟩, ⟨BL⟩⟩
          · replace c16 := Bool.eq_false_iff.mpr c16
            subst c16
            have H1 : (samphirelaw02_NatDivides.j1 kj2 l0 l1 t463 t464 t465 t470 t473 true) = some r := by rw [if_neg (show ¬ (false = true) by decide)] at H; exact H
            clear H
            have H := H1
            clear H1
            have H' := Aside0.mk H
            clear H
            go_wp2_with (first | ((with_reducible refine gate_callee (f := 15) rfl ?_); refine goesL_ (some 35) rfl rfl Tryd.func15 (by kernel_rfl) rfl #[.slice A0 l0.length c0] rfl EQ ?_; (with_reducible refine (samphireref02_Right.calls _ _ l0 false _ ?side1 ?side2 A15.out).mono ?_); (case side1 => exact CB HR0); (case side2 => exact HC0.out); rintro e w' ⟨rfl, ⟨nd, rfl⟩⟩; refine ⟨_, rfl, ?_⟩))
            go_meet
            case rel => exact ⟨_, (true), (by first | rfl | (simp; done) | (simp [*]; done) | (simp; exact isEmpty_bne _)), H', ⟨by have := HJ2.out; first | omega | exact Nat.le_refl _⟩, ⟨by (with_reducible repeat (first | apply Kd.R_alloc | apply Kd.R_drewN | apply Kd.R_drew)); exact HO467.out⟩, ⟨by (with_reducible repeat (first | apply Kd.R_alloc | apply Kd.R_drewN | apply Kd.R_drew)); exact HO469.out⟩, ⟨by (with_reducible repeat (first | apply Kd.R_alloc | apply Kd.R_drewN | apply Kd.R_drew)); exact Kd.R_mono HO472.out (fun _ hk => ⟨hk.1.2, hk.2⟩)⟩, ⟨BL⟩⟩
        case rest =>
          clear HC12
          try clear c1
          try clear p2
          try clear c3
          try clear c5
          try clear c7
          try clear c11
          try clear c12
          try clear c13
          try clear c14
          try clear c15
          try clear c16
          try clear p2
          obtain ⟨kq, x41_11, rfl, HA, HJ11, HO_5, HO_6, HO_8, HB⟩ := hcut
          cases kq with
          | zero => exact absurd HA.out (by simp [samphirelaw02_NatDivides.j1])
          | succ kj11 =>
            have H := HA.out
            clear HA
            simp only [samphirelaw02_NatDivides.j1] at H
            by_cases c18 : x41_11 = true
            · subst c18
              have H1 : (if (wrap64 ((t463.length : Int) + (t464.length : Int))) = 0 then (if t465 = 1 then ((samphirelaw02_told.f kj11 t470 t473 false ([] : List Int)).bind fun t476 => (if t476 = true then ((samphirelaw02_awake.f kj11).bind fun t477 => (some t477)) else (none))) else (none)) else (none)) = some r := by rw [if_pos rfl] at H; exact H
              clear H
              have H := H1
              clear H1
              obtain ⟨c19, H⟩ := ite_p H
              have c19b0 : ((wrap64 ((t463.length : Int) + (t464.length : Int))) == 0) = true := beq_iff_eq.mpr c19
              have c19b1 : ((wrap64 ((t463.length : Int) + (t464.length : Int))) != 0) = false := bne_eq_false_iff_eq.mpr c19
              clear c19
              obtain ⟨c20, H⟩ := ite_p H
              have c20b0 : (t465 == 1) = true := beq_iff_eq.mpr c20
              have c20b1 : (t465 != 1) = false := bne_eq_false_iff_eq.mpr c20
              clear c20
              obtain ⟨t476, A21, H⟩ := bind_p H
              by_cases c22 : t476 = true
              · subst c22
                have H1 : ((samphirelaw02_awake.f kj11).bind fun t477 => (some t477)) = some r := by rw [if_pos rfl] at H; exact H
                clear H
                have H := H1
                clear H1
                obtain ⟨t477, A23, H⟩ := bind_p H
                obtain rfl := Option.some.inj H
                obtain ⟨Ao24, co24, eo24⟩ := Kd.R_slice HO_5.out
                subst eo24
                obtain ⟨Ao25, co25, eo25⟩ := Kd.R_slice HO_6.out
                subst eo25
                obtain ⟨Ao26, co26, eo26⟩ := Kd.R_slice HO_8.out
                subst eo26
                go_wp2_with (first | (go_at_call 16; refine calls_of_args (args' := #[.slice Ao26 t470.length co26, .int .i64 t473, .bool false, .slice none 0 0]) (by first | (with_reducible rfl) | rfl) ?_; (refine (samphirelaw02_told.calls kj11 _ _ t470 t473 false _ _ ([] : List Int) true _ ?side1 ?side2 ?side3 ?side4 A21.out).mono ?_); (case side1 => exact RR HO_8); (case side2 => exact (Kd.R_reads' HO_8.out).2.1); (case side3 => exact Kd.C_nil _ _); (case side4 => exact Nat.le_refl _); rintro e w' ⟨rfl, ⟨nd, rfl⟩⟩) | (go_at_call 12; (with_reducible refine (samphirelaw02_awake.calls kj11  t477 _ A23.out).mono ?_); rintro e w27 ⟨rfl, hb⟩; have n0_ := Aside0.mk (Kd.R_below (RL HO_5) hb); have n1_ := Aside0.mk (Kd.R_below (RL HO_6) hb); have n2_ := Aside0.mk (Kd.R_below (RL HO_8) hb); have n3_ := Aside0.mk (below_step BL hb); clear HO_5; clear HO_6; clear HO_8; clear HB; have HO_5 := n0_; have HO_6 := n1_; have HO_8 := n2_; have HB := n3_; clear n0_ n1_ n2_ n3_; (try clear hb); (try clear hb2); (try clear hk); (try clear hi)))
                go_ret
                exact ⟨by first | rfl | (simp [errW_none, errW_some] <;> rfl) | (simp [*, errW_none, errW_some] <;> rfl), BL⟩
              · replace c22 := Bool.eq_false_iff.mpr c22
                subst c22
                have H1 : (none) = some r := by rw [if_neg (show ¬ (false = true) by decide)] at H; exact H
                clear H
                have H := H1
                clear H1
                cases H
            · replace c18 := Bool.eq_false_iff.mpr c18
              subst c18
              have H1 : ((samphireref02_Gcd.f kj11 l0 l1).bind fun t478 => ((samphirelaw02_told.f kj11 t470 t473 true t478).bind fun t481 => (if t481 = true then (if (l1.length : Int) = 0 then (if (wrap64 ((t463.length : Int) + (t464.length : Int))) = 0 then (if t465 = 7 then ((samphirelaw02_awake.f kj11).bind fun t482 => (some t482)) else (none)) else (none)) else ((samphireref02_Div.f kj11 l0 l1).bind fun bt483 => ((samphireref02_Same.f kj11 t463 bt483.1).bind fun t489 => (if t489 = true then ((samphireref02_Same.f kj11 t464 bt483.2).bind fun t490 => (if t490 = true then (if t465 = 0 then ((samphirelaw02_awake.f kj11).bind fun t491 => (some t491)) else (none)) else (none))) else (none))))) else (none)))) = some r := by rw [if_neg (show ¬ (false = true) by decide)] at H; exact H
              clear H
              have H := H1
              clear H1
              obtain ⟨t478, A28, H⟩ := bind_p H
              obtain ⟨t481, A29, H⟩ := bind_p H
              by_cases c30 : t481 = true
              · subst c30
                have H1 : (if (l1.length : Int) = 0 then (if (wrap64 ((t463.length : Int) + (t464.length : Int))) = 0 then (if t465 = 7 then ((samphirelaw02_awake.f kj11).bind fun t482 => (some t482)) else (none)) else (none)) else ((samphireref02_Div.f kj11 l0 l1).bind fun bt483 => ((samphireref02_Same.f kj11 t463 bt483.1).bind fun t489 => (if t489 = true then ((samphireref02_Same.f kj11 t464 bt483.2).bind fun t490 => (if t490 = true then (if t465 = 0 then ((samphirelaw02_awake.f kj11).bind fun t491 => (some t491)) else (none)) else (none))) else (none))))) = some r := by rw [if_pos rfl] at H; exact H
                clear H
                have H := H1
                clear H1
                by_cases c31 : (l1.length : Int) = 0
                · rw [if_pos c31] at H
                  have c31b0 : ((l1.length : Int) == 0) = true := beq_iff_eq.mpr c31
                  have c31b1 : ((l1.length : Int) != 0) = false := bne_eq_false_iff_eq.mpr c31
                  clear c31
                  obtain ⟨c32, H⟩ := ite_p H
                  have c32b0 : ((wrap64 ((t463.length : Int) + (t464.length : Int))) == 0) = true := beq_iff_eq.mpr c32
                  have c32b1 : ((wrap64 ((t463.length : Int) + (t464.length : Int))) != 0) = false := bne_eq_false_iff_eq.mpr c32
                  clear c32
                  obtain ⟨c33, H⟩ := ite_p H
                  have c33b0 : (t465 == 7) = true := beq_iff_eq.mpr c33
                  have c33b1 : (t465 != 7) = false := bne_eq_false_iff_eq.mpr c33
                  clear c33
                  obtain ⟨t482, A34, H⟩ := bind_p H
                  obtain rfl := Option.some.inj H
                  go_wp2_with (first | ((with_reducible refine gate_callee (f := 17) rfl ?_); refine goesL_ (some 64) rfl rfl Tryd.func17 (by kernel_rfl) rfl #[.slice A0 l0.length c0, .slice A1 l1.length c1] rfl EQ ?_; (with_reducible refine (samphireref02_Gcd.calls kj11 (fun k_ => k_ < w.heap.size) _ _ l0 (fun k_ => k_ < w.heap.size) _ _ l1 t478 _ ?side1 ?side2 A28.out).mono ?_); (case side1 => exact Kd.V_mk HC0.out (Kd.F_below (Kd.C_F (Kd.heap_int .u32) HR0.out) BL)); (case side2 => exact Kd.V_mk HC1.out (Kd.F_below (Kd.C_F (Kd.heap_int .u32) HR1.out) BL)); rintro e w35 ⟨v479, rfl, ho0, hb⟩; refine ⟨_, rfl, ?_⟩; have n0_ := Aside0.mk (Kd.R_below (RL HO_5) hb); have n1_ := Aside0.mk (Kd.R_below (RL HO_6) hb); have n2_ := Aside0.mk (Kd.R_below (RL HO_8) hb); have n3_ := Aside0.mk (Kd.V_lower (Kd.V_mono (ok' := fun k_ => some k_ ≠ (v466 : Value).ownBlock ∧ some k_ ≠ (v468 : Value).ownBlock ∧ some k_ ≠ (v471 : Value).ownBlock) ho0 (fun k_ hk_ => ⟨Or.elim hk_ (fun hs_ => Or.elim hs_ (fun hs_ => fun e_ => Nat.not_le.2 hs_ (Kd.R_base HO_5.out k_ e_.symm)) (fun hs_ => fun e_ => Nat.not_le.2 hs_ (Kd.R_base HO_5.out k_ e_.symm))) (fun hn_ => (Kd.fresh' (Kd.R_lt (RL HO_5)) k_ hn_)), Or.elim hk_ (fun hs_ => Or.elim hs_ (fun hs_ => fun e_ => Nat.not_le.2 hs_ (Kd.R_base HO_6.out k_ e_.symm)) (fun hs_ => fun e_ => Nat.not_le.2 hs_ (Kd.R_base HO_6.out k_ e_.symm))) (fun hn_ => (Kd.fresh' (Kd.R_lt (RL HO_6)) k_ hn_)), Or.elim hk_ (fun hs_ => Or.elim hs_ (fun hs_ => fun e_ => Nat.not_le.2 hs_ (Kd.R_base HO_8.out k_ e_.symm)) (fun hs_ => fun e_ => Nat.not_le.2 hs_ (Kd.R_base HO_8.out k_ e_.symm))) (fun hn_ => (Kd.fresh' (Kd.R_lt (RL HO_8)) k_ hn_))⟩)) (below_size BL)); have n4_ := Aside0.mk (below_step BL hb); clear HO_5; clear HO_6; clear HO_8; clear HB; have HO_5 := n0_; have HO_6 := n1_; have HO_8 := n2_; have HO480 := n3_; have HB := n4_; clear n0_ n1_ n2_ n3_ n4_; (try clear hb); (try clear hb2); (try clear hk); (try clear hi); (try clear ho0); obtain ⟨Ao36, co36, eo36⟩ := Kd.R_slice HO_8.out; subst eo36; obtain ⟨Ao37, co37, eo37⟩ := Kd.V_slice HO480.out; subst eo37) | ((with_reducible refine gate_callee (f := 16) rfl ?_); refine goesL_ (some 65) rfl rfl Tryd.func16 (by kernel_rfl) rfl #[.slice Ao36 t470.length co36, .int .i64 t473, .bool true, .slice Ao37 t478.length co37] rfl EQ ?_; (with_reducible refine (samphirelaw02_told.calls kj11 _ _ t470 t473 true _ _ t478 true _ ?side1 ?side2 ?side3 ?side4 A29.out).mono ?_); (case side1 => exact RR HO_8); (case side2 => exact (Kd.R_reads' HO_8.out).2.1); (case side3 => repeat (first | exact (Kd.V_reads' HO480.out).2.2 | (with_reducible refine Kd.C_alloc ?_ _) | (with_reducible refine Kd.C_drewN ?_ _) | (with_reducible refine Kd.C_drew ?_))); (case side4 => exact (Kd.V_reads' HO480.out).2.1); rintro e w' ⟨rfl, ⟨nd, rfl⟩⟩; refine ⟨_, rfl, ?_⟩; obtain ⟨Ao38, co38, eo38⟩ := Kd.R_slice HO_5.out; subst eo38; obtain ⟨Ao39, co39, eo39⟩ := Kd.R_slice HO_6.out; subst eo39) | (go_at_call 12; (with_reducible refine (samphirelaw02_awake.calls kj11  t482 _ A34.out).mono ?_); rintro e w40 ⟨rfl, hb⟩; have n0_ := Aside0.mk (Kd.R_below (RL HO_5) hb); have n1_ := Aside0.mk (Kd.R_below (RL HO_6) hb); have n2_ := Aside0.mk (Kd.R_below (RL HO_8) hb); have n3_ := Aside0.mk (Kd.V_below (by (with_reducible repeat (first | apply Kd.V_alloc | apply Kd.V_drewN | apply Kd.V_drew)); exact HO480.out) hb); have n4_ := Aside0.mk (below_step BL hb); clear HO_5; clear HO_6; clear HO_8; clear HO480; clear HB; have HO_5 := n0_; have HO_6 := n1_; have HO_8 := n2_; have HO480 := n3_; have HB := n4_; clear n0_ n1_ n2_ n3_ n4_; (try clear hb); (try clear hb2); (try clear hk); (try clear hi)))
                  go_ret
                  exact ⟨by first | rfl | (simp [errW_none, errW_some] <;> rfl) | (simp [*, errW_none, errW_some] <;> rfl), BL⟩
                · rw [if_neg c31] at H
                  have c31b0 : ((l1.length : Int) == 0) = false := beq_eq_false_iff_ne.mpr c31
                  have c31b1 : ((l1.length : Int) != 0) = true := bne_iff_ne.mpr c31
                  have c31b2 : ¬ (l1 = []) := fun h_ => c31 (by rw [h_]; rfl)
                  obtain ⟨⟨t483, t484⟩, A41, H⟩ := bind_p H
                  dsimp only at H
                  obtain ⟨t489, A42, H⟩ := bind_p H
                  by_cases c43 : t489 = true
                  · subst c43
                    have H1 : ((samphireref02_Same.f kj11 t464 t484).bind fun t490 => (if t490 = true then (if t465 = 0 then ((samphirelaw02_awake.f kj11).bind fun t491 => (some t491)) else (none)) else (none))) = some r := by rw [if_pos rfl] at H; exact H
                    clear H
                    have H := H1
                    clear H1
                    obtain ⟨t490, A44, H⟩ := bind_p H
                    by_cases c45 : t490 = true
                    · subst c45
                      have H1 : (if t465 = 0 then ((samphirelaw02_awake.f kj11).bind fun t491 => (some t491)) else (none)) = some r := by rw [if_pos rfl] at H; exact H
                      clear H
                      have H := H1
                      clear H1
                      obtain ⟨c46, H⟩ := ite_p H
                      have c46b0 : (t465 == 0) = true := beq_iff_eq.mpr c46
                      have c46b1 : (t465 != 0) = false := bne_eq_false_iff_eq.mpr c46
                      clear c46
                      obtain ⟨t491, A47, H⟩ := bind_p H
                      obtain rfl := Option.some.inj H
                      go_wp2_with (first | ((with_reducible refine gate_callee (f := 17) rfl ?_); refine goesL_ (some 64) rfl rfl Tryd.func17 (by kernel_rfl) rfl #[.slice A0 l0.length c0, .slice A1 l1.length c1] rfl EQ ?_; (with_reducible refine (samphireref02_Gcd.calls kj11 (fun k_ => k_ < w.heap.size) _ _ l0 (fun k_ => k_ < w.heap.size) _ _ l1 t478 _ ?side1 ?side2 A28.out).mono ?_); (case side1 => exact Kd.V_mk HC0.out (Kd.F_below (Kd.C_F (Kd.heap_int .u32) HR0.out) BL)); (case side2 => exact Kd.V_mk HC1.out (Kd.F_below (Kd.C_F (Kd.heap_int .u32) HR1.out) BL)); rintro e w48 ⟨v479, rfl, ho0, hb⟩; refine ⟨_, rfl, ?_⟩; have n0_ := Aside0.mk (Kd.R_below (RL HO_5) hb); have n1_ := Aside0.mk (Kd.R_below (RL HO_6) hb); have n2_ := Aside0.mk (Kd.R_below (RL HO_8) hb); have n3_ := Aside0.mk (Kd.V_lower (Kd.V_mono (ok' := fun k_ => some k_ ≠ (v466 : Value).ownBlock ∧ some k_ ≠ (v468 : Value).ownBlock ∧ some k_ ≠ (v471 : Value).ownBlock) ho0 (fun k_ hk_ => ⟨Or.elim hk_ (fun hs_ => Or.elim hs_ (fun hs_ => fun e_ => Nat.not_le.2 hs_ (Kd.R_base HO_5.out k_ e_.symm)) (fun hs_ => fun e_ => Nat.not_le.2 hs_ (Kd.R_base HO_5.out k_ e_.symm))) (fun hn_ => (Kd.fresh' (Kd.R_lt (RL HO_5)) k_ hn_)), Or.elim hk_ (fun hs_ => Or.elim hs_ (fun hs_ => fun e_ => Nat.not_le.2 hs_ (Kd.R_base HO_6.out k_ e_.symm)) (fun hs_ => fun e_ => Nat.not_le.2 hs_ (Kd.R_base HO_6.out k_ e_.symm))) (fun hn_ => (Kd.fresh' (Kd.R_lt (RL HO_6)) k_ hn_)), Or.elim hk_ (fun hs_ => Or.elim hs_ (fun hs_ => fun e_ => Nat.not_le.2 hs_ (Kd.R_base HO_8.out k_ e_.symm)) (fun hs_ => fun e_ => Nat.not_le.2 hs_ (Kd.R_base HO_8.out k_ e_.symm))) (fun hn_ => (Kd.fresh' (Kd.R_lt (RL HO_8)) k_ hn_))⟩)) (below_size BL)); have n4_ := Aside0.mk (below_step BL hb); clear HO_5; clear HO_6; clear HO_8; clear HB; have HO_5 := n0_; have HO_6 := n1_; have HO_8 := n2_; have HO480 := n3_; have HB := n4_; clear n0_ n1_ n2_ n3_ n4_; (try clear hb); (try clear hb2); (try clear hk); (try clear hi); (try clear ho0); obtain ⟨Ao49, co49, eo49⟩ := Kd.R_slice HO_8.out; subst eo49; obtain ⟨Ao50, co50, eo50⟩ := Kd.V_slice HO480.out; subst eo50) | ((with_reducible refine gate_callee (f := 16) rfl ?_); refine goesL_ (some 65) rfl rfl Tryd.func16 (by kernel_rfl) rfl #[.slice Ao49 t470.length co49, .int .i64 t473, .bool true, .slice Ao50 t478.length co50] rfl EQ ?_; (with_reducible refine (samphirelaw02_told.calls kj11 _ _ t470 t473 true _ _ t478 true _ ?side1 ?side2 ?side3 ?side4 A29.out).mono ?_); (case side1 => exact RR HO_8); (case side2 => exact (Kd.R_reads' HO_8.out).2.1); (case side3 => repeat (first | exact (Kd.V_reads' HO480.out).2.2 | (with_reducible refine Kd.C_alloc ?_ _) | (with_reducible refine Kd.C_drewN ?_ _) | (with_reducible refine Kd.C_drew ?_))); (case side4 => exact (Kd.V_reads' HO480.out).2.1); rintro e w' ⟨rfl, ⟨nd, rfl⟩⟩; refine ⟨_, rfl, ?_⟩) | ((with_reducible refine gate_callee (f := 18) rfl ?_); refine goesL_ (some 86) rfl rfl Tryd.func18 (by kernel_rfl) rfl #[.slice A0 l0.length c0, .slice A1 l1.length c1] rfl EQ ?_; (with_reducible refine (samphireref02_Div.calls kj11 _ _ l0 _ _ l1 t483 t484 _ ?side1 ?side2 ?side3 ?side4 A41.out).mono ?_); (case side1 => repeat (first | exact (Kd.C_below HR0.out BL) | (with_reducible refine Kd.C_alloc ?_ _) | (with_reducible refine Kd.C_drewN ?_ _) | (with_reducible refine Kd.C_drew ?_))); (case side2 => exact HC0.out); (case side3 => repeat (first | exact (Kd.C_below HR1.out BL) | (with_reducible refine Kd.C_alloc ?_ _) | (with_reducible refine Kd.C_drewN ?_ _) | (with_reducible refine Kd.C_drew ?_))); (case side4 => exact HC1.out); rintro e w51 ⟨v485, v487, rfl, ho0, ho1, hb⟩; refine ⟨_, rfl, ?_⟩; have n0_ := Aside0.mk (Kd.R_mono (Kd.R_told (Kd.R_told (Kd.R_old (RL HO_5) hb) (Kd.R_base ho0)) (Kd.R_base ho1)) (fun _ h_ => h_.1)); have n1_ := Aside0.mk (Kd.R_mono (Kd.R_told (Kd.R_told (Kd.R_old (RL HO_6) hb) (Kd.R_base ho0)) (Kd.R_base ho1)) (fun _ h_ => h_.1)); have n2_ := Aside0.mk (Kd.R_mono (Kd.R_told (Kd.R_told (Kd.R_old (RL HO_8) hb) (Kd.R_base ho0)) (Kd.R_base ho1)) (fun _ h_ => h_.1)); have n3_ := Aside0.mk (Kd.V_mono (Kd.V_told (Kd.V_told (Kd.V_old (by (with_reducible repeat (first | apply Kd.V_alloc | apply Kd.V_drewN | apply Kd.V_drew)); exact HO480.out) hb) (Kd.R_base ho0)) (Kd.R_base ho1)) (fun _ h_ => h_.1)); have n4_ := Aside0.mk (Kd.R_lower (Kd.R_new' (Kd.R_new' (Kd.R_new' ho0 (Kd.R_lt (RL HO_5))) (Kd.R_lt (RL HO_6))) (Kd.R_lt (RL HO_8))) (below_size BL)); have n5_ := Aside0.mk (Kd.R_lower (Kd.R_new' (Kd.R_new' (Kd.R_new' ho1 (Kd.R_lt (RL HO_5))) (Kd.R_lt (RL HO_6))) (Kd.R_lt (RL HO_8))) (below_size BL)); have n6_ := Aside0.mk (below_step BL hb); clear HO_5; clear HO_6; clear HO_8; clear HO480; clear HB; have HO_5 := n0_; have HO_6 := n1_; have HO_8 := n2_; have HO480 := n3_; have HO486 := n4_; have HO488 := n5_; have HB := n6_; clear n0_ n1_ n2_ n3_ n4_ n5_ n6_; (try clear hb); (try clear hb2); (try clear hk); (try clear hi); (try clear ho0); (try clear ho1); obtain ⟨Ao52, co52, eo52⟩ := Kd.R_slice HO_5.out; subst eo52; obtain ⟨Ao53, co53, eo53⟩ := Kd.R_slice HO486.out; subst eo53) | ((with_reducible refine gate_callee (f := 19) rfl ?_); refine goesL_ (some 91) rfl rfl Tryd.func19 (by kernel_rfl) rfl #[.slice Ao52 t463.length co52, .slice Ao53 t483.length co53] rfl EQ ?_; (with_reducible refine (samphireref02_Same.calls kj11 _ _ t463 _ _ t483 true _ ?side1 ?side2 ?side3 ?side4 A42.out).mono ?_); (case side1 => exact RR HO_5); (case side2 => exact (Kd.R_reads' HO_5.out).2.1); (case side3 => exact RR HO486); (case side4 => exact (Kd.R_reads' HO486.out).2.1); rintro e w' ⟨rfl, ⟨nd, rfl⟩⟩; refine ⟨_, rfl, ?_⟩; obtain ⟨Ao54, co54, eo54⟩ := Kd.R_slice HO_6.out; subst eo54; obtain ⟨Ao55, co55, eo55⟩ := Kd.R_slice HO488.out; subst eo55) | (go_at_call 19; (with_reducible refine (samphireref02_Same.calls kj11 _ _ t464 _ _ t484 true _ ?side1 ?side2 ?side3 ?side4 A44.out).mono ?_); (case side1 => exact RR HO_6); (case side2 => exact (Kd.R_reads' HO_6.out).2.1); (case side3 => exact RR HO488); (case side4 => exact (Kd.R_reads' HO488.out).2.1); rintro e w' ⟨rfl, ⟨nd, rfl⟩⟩) | (go_at_call 12; (with_reducible refine (samphirelaw02_awake.calls kj11  t491 _ A47.out).mono ?_); rintro e w56 ⟨rfl, hb⟩; have n0_ := Aside0.mk (Kd.R_below (RL HO_5) hb); have n1_ := Aside0.mk (Kd.R_below (RL HO_6) hb); have n2_ := Aside0.mk (Kd.R_below (RL HO_8) hb); have n3_ := Aside0.mk (Kd.V_below (by (with_reducible repeat (first | apply Kd.V_alloc | apply Kd.V_drewN | apply Kd.V_drew)); exact HO480.out) hb); have n4_ := Aside0.mk (Kd.R_below (RL HO486) hb); have n5_ := Aside0.mk (Kd.R_below (RL HO488) hb); have n6_ := Aside0.mk (below_step BL hb); clear HO_5; clear HO_6; clear HO_8; clear HO480; clear HO486; clear HO488; clear HB; have HO_5 := n0_; have HO_6 := n1_; have HO_8 := n2_; have HO480 := n3_; have HO486 := n4_; have HO488 := n5_; have HB := n6_; clear n0_ n1_ n2_ n3_ n4_ n5_ n6_; (try clear hb); (try clear hb2); (try clear hk); (try clear hi)))
                      go_ret
                      exact ⟨by first | rfl | (simp [errW_none, errW_some] <;> rfl) | (simp [*, errW_none, errW_some] <;> rfl), BL⟩
                    · replace c45 := Bool.eq_false_iff.mpr c45
                      subst c45
                      have H1 : (none) = some r := by rw [if_neg (show ¬ (false = true) by decide)] at H; exact H
                      clear H
                      have H := H1
                      clear H1
                      cases H
                  · replace c43 := Bool.eq_false_iff.mpr c43
                    subst c43
                    have H1 : (none) = some r := by rw [if_neg (show ¬ (false = true) by decide)] at H; exact H
                    clear H
                    have H := H1
                    clear H1
                    cases H
              · replace c30 := Bool.eq_false_iff.mpr c30
                subst c30
                have H1 : (none) = some r := by rw [if_neg (show ¬ (false = true) by decide)] at H; exact H
                clear H
                have H := H1
                clear H1
                cases H

/-- THE ONE PURE STATEMENT of samphirelaw02_NatDivides: yours. -/
theorem samphirelaw02_NatDivides.walk (P : samphirelaw02_NatDivides.Pure) (a0 : Option Addr) (len0 cap0 : Nat) (z0 : List Int) (a1 : Option Addr) (len1 cap1 : Nat) (z1 : List Int) (w : World) (w0 : (a0 = none ∧ len0 = 0 ∧ cap0 = 0 ∧ z0 = []) ∨ ∃ x, a0 = some x ∧ len0 ≤ cap0 ∧ cap0 ≤ maxLen ∧ z0.length = cap0 ∧ (∀ i, i < z0.length → w.cell? (x.add i) = some (.int .u32 (z0.getD i 0))) ∧ ∀ n ∈ z0, (Lit.int .u32 n).wf = true) (y0 : len0 * 4 ≤ 140737488351232) (w1 : (a1 = none ∧ len1 = 0 ∧ cap1 = 0 ∧ z1 = []) ∨ ∃ x, a1 = some x ∧ len1 ≤ cap1 ∧ cap1 ≤ maxLen ∧ z1.length = cap1 ∧ (∀ i, i < z1.length → w.cell? (x.add i) = some (.int .u32 (z1.getD i 0))) ∧ ∀ n ∈ z1, (Lit.int .u32 n).wf = true) (y1 : len1 * 4 ≤ 140737488351232) :
    Calls Tryd.prog 3 #[.slice a0 len0 cap0, .slice a1 len1 cap1] w fun e w' => e = .returned (.bool true) ∧ Below w.heap.size w w' := by
  obtain ⟨l0, rfl, hr0, hm0, hw0, hc0⟩ := ReadsInt.ofRowC w0
  obtain ⟨l1, rfl, hr1, hm1, hw1, hc1⟩ := ReadsInt.ofRowC w1
  obtain ⟨k, h⟩ := P l0 l1 hm0 y0 hw0 hm1 y1 hw1
  refine (samphirelaw02_NatDivides.calls k _ _ l0 _ _ l1 true w (Kd.C_of_reads (d := (0 : Int)) (h1 := fun _ => rfl) hr0) hc0 (Kd.C_of_reads (d := (0 : Int)) (h1 := fun _ => rfl) hr1) hc1 h).mono ?_
  rintro e w' ⟨rfl, hd⟩
  exact ⟨rfl, hd⟩

end Go.Proofs.YtdgbeejhccogpaaDoor.P
