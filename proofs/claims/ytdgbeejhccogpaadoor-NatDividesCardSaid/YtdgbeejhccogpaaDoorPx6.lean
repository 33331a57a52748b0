-- Printed by this session's own program out of the translation.
import Derived.Test.YtdgbeejhccogpaaDoorPx0
import Derived.Test.YtdgbeejhccogpaaDoorPx2
import Derived.Test.YtdgbeejhccogpaaDoorPx5
namespace Go.Proofs.YtdgbeejhccogpaaDoor.P
open Go.RowKit Go.Proofs.YtdgbeejhccogpaaDoorW.PrintWords Go.Proofs.YtdgbeejhccogpaaDoorW.PrintLast Go.Proofs.YtdgbeejhccogpaaDoorW.PrintMore
attribute [local go_sem] max2_int min2_int max_two min_two max_three min_three max_four min_four   -- for this text's walks alone
set_option linter.unusedVariables false
set_option linter.unusedSimpArgs false

/-! ### samphirelaw02_told: function 16 -/
set_option maxHeartbeats 8000000 in
set_option maxRecDepth 100000 in
theorem samphirelaw02_told.calls (k : Nat) (A0 : Option Addr) (c0 : Nat) (l0 : List Int) (a1 : Int) (a2 : Bool) (A3 : Option Addr) (c3 : Nat) (l3 : List Int) (r : Bool) (w : World) (hr0 : Kd.C (Kd.int .u32) w A0 l0.length l0) (hc0 : l0.length ≤ c0) (hr3 : Kd.C (Kd.int .u32) w A3 l3.length l3) (hc3 : l3.length ≤ c3) (h : samphirelaw02_told.f k l0 a1 a2 l3 = some r) :
    Calls Tryd.prog 16 #[.slice A0 l0.length c0, .int .i64 a1, .bool a2, .slice A3 l3.length c3] w fun e w' => e = .returned (.bool r) ∧ Drawn0 w w' := by
  have HR0 := Aside0.mk hr0
  have HC0 := Aside0.mk hc0
  clear hr0 hc0
  have HR3 := Aside0.mk hr3
  have HC3 := Aside0.mk hc3
  clear hr3 hc3
  have H : (if a2 = true then (if (l3.length : Int) > 64 then (if (l0.length : Int) = 0 then (some (a1 == 6)) else (some false)) else ((samphireref02_Same.f k l0 l3).bind fun t355 => (if t355 = true then (some (a1 == 0)) else (some false)))) else (if (l0.length : Int) = 0 then (some (a1 == 1)) else (some false))) = some r := h
  clear h
  by_cases c5 : a2 = true
  · subst c5
    have H1 : (if (l3.length : Int) > 64 then (if (l0.length : Int) = 0 then (some (a1 == 6)) else (some false)) else ((samphireref02_Same.f k l0 l3).bind fun t355 => (if t355 = true then (some (a1 == 0)) else (some false)))) = some r := by rw [if_pos rfl] at H; exact H
    clear H
    have H := H1
    clear H1
    by_cases c6 : (l3.length : Int) > 64
    · rw [if_pos c6] at H
      have c6b0 : decide (64 < (l3.length : Int)) = true := decide_eq_true c6
      have c6b1 : decide (64 < l3.length) = true := decide_eq_true (by omega)
      clear c6
      by_cases c7 : (l0.length : Int) = 0
      · rw [if_pos c7] at H
        have c7b0 : ((l0.length : Int) == 0) = true := beq_iff_eq.mpr c7
        have c7b1 : ((l0.length : Int) != 0) = false := bne_eq_false_iff_eq.mpr c7
        clear c7
        obtain rfl := Option.some.inj H
        go_enter Tryd.func16, Tryd.ntmps16
        go_wp2
        go_ret
        exact ⟨by first | rfl | (simp; done) | (simp [*]; done) | (simp; exact isEmpty_bne _), by repeat (first | exact Drawn0.refl _ | apply Drawn0.step)⟩
      · rw [if_neg c7] at H
        have c7b0 : ((l0.length : Int) == 0) = false := beq_eq_false_iff_ne.mpr c7
        have c7b1 : ((l0.length : Int) != 0) = true := bne_iff_ne.mpr c7
        have c7b2 : ¬ (l0 = []) := fun h_ => c7 (by rw [h_]; rfl)
        obtain rfl := Option.some.inj H
        go_enter Tryd.func16, Tryd.ntmps16
        go_wp2
        go_ret
        exact ⟨by first | rfl | (simp; done) | (simp [*]; done) | (simp; exact isEmpty_bne _), by repeat (first | exact Drawn0.refl _ | apply Drawn0.step)⟩
    · rw [if_neg c6] at H
      have c6b0 : decide (64 < (l3.length : Int)) = false := decide_eq_false c6
      have c6b1 : decide (64 < l3.length) = false := decide_eq_false (by omega)
      clear c6
      obtain ⟨t355, A8, H⟩ := bind_p H
      by_cases c9 : t355 = true
      · subst c9
        have H1 : (some (a1 == 0)) = some r := by rw [if_pos rfl] at H; exact H
        clear H
        have H := H1
        clear H1
        obtain rfl := Option.some.inj H
        go_enter Tryd.func16, Tryd.ntmps16
        go_wp2_with (first | ((with_reducible refine gate_callee (f := 19) rfl ?_); refine goesL_ (some 32) rfl rfl Tryd.func19 (by kernel_rfl) rfl #[.slice A0 l0.length c0, .slice A3 l3.length c3] rfl EQ ?_; (with_reducible refine (samphireref02_Same.calls k _ _ l0 _ _ l3 true _ ?side1 ?side2 ?side3 ?side4 A8.out).mono ?_); (case side1 => repeat (first | exact HR0.out | (with_reducible refine Kd.C_alloc ?_ _) | (with_reducible refine Kd.C_drewN ?_ _) | (with_reducible refine Kd.C_drew ?_))); (case side2 => exact HC0.out); (case side3 => repeat (first | exact HR3.out | (with_reducible refine Kd.C_alloc ?_ _) | (with_reducible refine Kd.C_drewN ?_ _) | (with_reducible refine Kd.C_drew ?_))); (case side4 => exact HC3.out); rintro e w' ⟨rfl, ⟨nd, rfl⟩⟩; refine ⟨_, rfl, ?_⟩))
        go_ret
        exact ⟨by first | rfl | (simp; done) | (simp [*]; done) | (simp; exact isEmpty_bne _), by repeat (first | exact Drawn0.refl _ | apply Drawn0.step)⟩
      · replace c9 := Bool.eq_false_iff.mpr c9
        subst c9
        have H1 : (some false) = some r := by rw [if_neg (show ¬ (false = true) by decide)] at H; exact H
        clear H
        have H := H1
        clear H1
        obtain rfl := Option.some.inj H
        go_enter Tryd.func16, Tryd.ntmps16
        go_wp2_with (first | ((with_reducible refine gate_callee (f := 19) rfl ?_); refine goesL_ (some 32) rfl rfl Tryd.func19 (by kernel_rfl) rfl #[.slice A0 l0.length c0, .slice A3 l3.length c3] rfl EQ ?_; (with_reducible refine (samphireref02_Same.calls k _ _ l0 _ _ l3 false _ ?side1 ?side2 ?side3 ?side4 A8.out).mono ?_); (case side1 => repeat (first | exact HR0.out | (with_reducible refine Kd.C_alloc ?_ _) | (with_reducible refine Kd.C_drewN ?_ _) | (with_reducible refine Kd.C_drew ?_))); (case side2 => exact HC0.out); (case side3 => repeat (first | exact HR3.out | (with_reducible refine Kd.C_alloc ?_ _) | (with_reducible refine Kd.C_drewN ?_ _) | (with_reducible refine Kd.C_drew ?_))); (case side4 => exact HC3.out); rintro e w' ⟨rfl, ⟨nd, rfl⟩⟩; refine ⟨_, rfl, ?_⟩))
        go_ret
        exact ⟨by first | rfl | (simp; done) | (simp [*]; done) | (simp; exact isEmpty_bne _), by repeat (first | exact Drawn0.refl _ | apply Drawn0.step)⟩
  · replace c5 := Bool.eq_false_iff.mpr c5
    subst c5
    have H1 : (if (l0.length : Int) = 0 then (some (a1 == 1)) else (some false)) = some r := by rw [if_neg (show ¬ (false = true) by decide)] at H; exact H
    clear H
    have H := H1
    clear H1
    by_cases c10 : (l0.length : Int) = 0
    · rw [if_pos c10] at H
      have c10b0 : ((l0.length : Int) == 0) = true := beq_iff_eq.mpr c10
      have c10b1 : ((l0.length : Int) != 0) = false := bne_eq_false_iff_eq.mpr c10
      clear c10
      obtain rfl := Option.some.inj H
      go_enter Tryd.func16, Tryd.ntmps16
      go_wp2
      go_ret
      exact ⟨by first | rfl | (simp; done) | (simp [*]; done) | (simp; exact isEmpty_bne _), by repeat (first | exact Drawn0.refl _ | apply Drawn0.step)⟩
    · rw [if_neg c10] at H
      have c10b0 : ((l0.length : Int) == 0) = false := beq_eq_false_iff_ne.mpr c10
      have c10b1 : ((l0.length : Int) != 0) = true := bne_iff_ne.mpr c10
      have c10b2 : ¬ (l0 = []) := fun h_ => c10 (by rw [h_]; rfl)
      obtain rfl := Option.some.inj H
      go_enter Tryd.func16, Tryd.ntmps16
      go_wp2
      go_ret
      exact ⟨by first | rfl | (simp; done) | (simp [*]; done) | (simp; exact isEmpty_bne _), by repeat (first | exact Drawn0.refl _ | apply Drawn0.step)⟩

/-! ### samphireref02_Cmp: function 34 -/
set_option maxHeartbeats 8000000 in
set_option maxRecDepth 100000 in
theorem samphireref02_Cmp.calls (k : Nat) (A0 : Option Addr) (c0 : Nat) (l0 : List Int) (A1 : Option Addr) (c1 : Nat) (l1 : List Int) (r : Int) (w : World) (hr0 : Kd.C (Kd.int .u32) w A0 l0.length l0) (hc0 : l0.length ≤ c0) (hr1 : Kd.C (Kd.int .u32) w A1 l1.length l1) (hc1 : l1.length ≤ c1) (h : samphireref02_Cmp.f k l0 l1 = some r) :
    Calls Tryd.prog 34 #[.slice A0 l0.length c0, .slice A1 l1.length c1] w fun e w' => e = .returned (.int .i64 r) ∧ Drawn0 w w' := by
  have HR0 := Aside0.mk hr0
  have HC0 := Aside0.mk hc0
  clear hr0 hc0
  have HR1 := Aside0.mk hr1
  have HC1 := Aside0.mk hc1
  clear hr1 hc1
  have H : (if (l0.length : Int) = (l1.length : Int) then (samphireref02_Cmp.l0 k l0 l1 (wrap64 ((l0.length : Int) - 1))) else (if (l0.length : Int) < (l1.length : Int) then (some (-1)) else (some 1))) = some r := h
  clear h
  by_cases c3 : (l0.length : Int) = (l1.length : Int)
  · rw [if_pos c3] at H
    have c3b0 : ((l0.length : Int) == (l1.length : Int)) = true := beq_iff_eq.mpr c3
    have c3b1 : ((l0.length : Int) != (l1.length : Int)) = false := bne_eq_false_iff_eq.mpr c3
    have c3b2 : (l0.length == l1.length) = true := by first | simpa using c3 | (simp at c3 ⊢; omega)
    clear c3
    have H' := Aside0.mk H
    clear H
    go_enter Tryd.func34, Tryd.ntmps34
    go_wp2
    repeat (go_quiet (fail); try go_wp2)
    go_loopg [5] k (fun kq v5 w' => ∃ (x5_1 : Int), v5 = .int .i64 x5_1 ∧ Aside0 (samphireref02_Cmp.l0 kq l0 l1 x5_1 = some r) ∧ Aside0 (kq ≤ k) ∧ Drawn0 w w')
    case atStart => exact ⟨(wrap64 ((l0.length : Int) - 1)), (by first | rfl | (simp; done) | (simp [*]; done) | (simp; exact isEmpty_bne _)), H', ⟨Nat.le_refl _⟩, by repeat (first | exact Drawn0.refl _ | apply Drawn0.step)⟩
    case round =>
      clear H'
      try clear c1
      try clear p2
      try clear c3
      try clear c3b0
      try clear c3b1
      try clear c3b2
      obtain ⟨x5_1, rfl, HA, HK1, ⟨m1, rfl⟩⟩ := hrel
      cases gk with
      | zero => exact absurd HA.out (by simp [samphireref02_Cmp.l0])
      | succ k1 =>
        have H := HA.out
        clear HA
        simp only [samphireref02_Cmp.l0] at H
        by_cases c4 : x5_1 ≥ 0
        · rw [if_pos c4] at H
          have c4b0 : decide (0 ≤ x5_1) = true := decide_eq_true c4
          clear c4
          obtain ⟨c5, H⟩ := ite_p H
          have c5b0 : decide (0 ≤ x5_1) = true := decide_eq_true c5
          clear c5
          obtain ⟨c6, H⟩ := ite_p H
          have c6b0 : decide (x5_1 < (l0.length : Int)) = true := decide_eq_true c6
          clear c6
          obtain ⟨c7, H⟩ := ite_p H
          have c7b0 : decide (x5_1 < (l1.length : Int)) = true := decide_eq_true c7
          clear c7
          by_cases c8 : (rd l0 x5_1) = (rd l1 x5_1)
          · rw [if_pos c8] at H
            have c8b0 : ((rd l0 x5_1) == (rd l1 x5_1)) = true := beq_iff_eq.mpr c8
            have c8b1 : ((rd l0 x5_1) != (rd l1 x5_1)) = false := bne_eq_false_iff_eq.mpr c8
            clear c8
            have H' := Aside0.mk H
            clear H
            have p356 : 0 ≤ (x5_1 : Int) := DA
            have q356 : x5_1 < (l0.length : Int) := DA
            obtain ⟨ad356, e356, hx356_0⟩ := Kd.at_int HR0.out x5_1 p356 q356
            cases e356
            replace p356 := eq_true p356
            replace q356 := eq_true q356
            have p357 : 0 ≤ (x5_1 : Int) := DA
            have q357 : x5_1 < (l1.length : Int) := DA
            obtain ⟨ad357, e357, hx357_0⟩ := Kd.at_int HR1.out x5_1 p357 q357
            cases e357
            replace p357 := eq_true p357
            replace q357 := eq_true q357
            go_wp2
            repeat (go_quiet (fail); try go_wp2)
            go_roundg k1
            case measure => have := HK1.out; omega
            case rel => exact ⟨(wrap64 (x5_1 - 1)), (by first | rfl | (simp; done) | (simp [*]; done) | (simp; exact isEmpty_bne _)), H', ⟨by have := HK1.out; omega⟩, by repeat (first | exact Drawn0.refl _ | apply Drawn0.step)⟩
          · rw [if_neg c8] at H
            have c8b0 : ((rd l0 x5_1) == (rd l1 x5_1)) = false := beq_eq_false_iff_ne.mpr c8
            have c8b1 : ((rd l0 x5_1) != (rd l1 x5_1)) = true := bne_iff_ne.mpr c8
            by_cases c9 : (rd l0 x5_1) < (rd l1 x5_1)
            · rw [if_pos c9] at H
              have c9b0 : decide ((rd l0 x5_1) < (rd l1 x5_1)) = true := decide_eq_true c9
              clear c9
              obtain rfl := Option.some.inj H
              have p356 : 0 ≤ (x5_1 : Int) := DA
              have q356 : x5_1 < (l0.length : Int) := DA
              obtain ⟨ad356, e356, hx356_0⟩ := Kd.at_int HR0.out x5_1 p356 q356
              cases e356
              replace p356 := eq_true p356
              replace q356 := eq_true q356
              have p357 : 0 ≤ (x5_1 : Int) := DA
              have q357 : x5_1 < (l1.length : Int) := DA
              obtain ⟨ad357, e357, hx357_0⟩ := Kd.at_int HR1.out x5_1 p357 q357
              cases e357
              replace p357 := eq_true p357
              replace q357 := eq_true q357
              have p358 : 0 ≤ (x5_1 : Int) := DA
              have q358 : x5_1 < (l0.length : Int) := DA
              obtain ⟨ad358, e358, hx358_0⟩ := Kd.at_int HR0.out x5_1 p358 q358
              obtain rfl : ad356 = ad358 := (by injection e358)
              replace p358 := eq_true p358
              replace q358 := eq_true q358
              have p359 : 0 ≤ (x5_1 : Int) := DA
              have q359 : x5_1 < (l1.length : Int) := DA
              obtain ⟨ad359, e359, hx359_0⟩ := Kd.at_int HR1.out x5_1 p359 q359
              obtain rfl : ad357 = ad359 := (by injection e359)
              replace p359 := eq_true p359
              replace q359 := eq_true q359
              go_wp2
              repeat (go_quiet (fail); try go_wp2)
              go_ret
              exact ⟨by first | rfl | (simp; done) | (simp [*]; done) | (simp; exact isEmpty_bne _), by repeat (first | exact Drawn0.refl _ | apply Drawn0.step)⟩
            · rw [if_neg c9] at H
              have c9b0 : decide ((rd l0 x5_1) < (rd l1 x5_1)) = false := decide_eq_false c9
              clear c9
              obtain rfl := Option.some.inj H
              have p356 : 0 ≤ (x5_1 : Int) := DA
              have q356 : x5_1 < (l0.length : Int) := DA
              obtain ⟨ad356, e356, hx356_0⟩ := Kd.at_int HR0.out x5_1 p356 q356
              cases e356
              replace p356 := eq_true p356
              replace q356 := eq_true q356
              have p357 : 0 ≤ (x5_1 : Int) := DA
              have q357 : x5_1 < (l1.length : Int) := DA
              obtain ⟨ad357, e357, hx357_0⟩ := Kd.at_int HR1.out x5_1 p357 q357
              cases e357
              replace p357 := eq_true p357
              replace q357 := eq_true q357
              have p358 : 0 ≤ (x5_1 : Int) := DA
              have q358 : x5_1 < (l0.length : Int) := DA
              obtain ⟨ad358, e358, hx358_0⟩ := Kd.at_int HR0.out x5_1 p358 q358
              obtain rfl : ad356 = ad358 := (by injection e358)
              replace p358 := eq_true p358
              replace q358 := eq_true q358
              have p359 : 0 ≤ (x5_1 : Int) := DA
              have q359 : x5_1 < (l1.length : Int) := DA
              obtain ⟨ad359, e359, hx359_0⟩ := Kd.at_int HR1.out x5_1 p359 q359
              obtain rfl : ad357 = ad359 := (by injection e359)
              replace p359 := eq_true p359
              replace q359 := eq_true q359
              go_wp2
              repeat (go_quiet (fail); try go_wp2)
              go_ret
              exact ⟨by first | rfl | (simp; done) | (simp [*]; done) | (simp; exact isEmpty_bne _), by repeat (first | exact Drawn0.refl _ | apply Drawn0.step)⟩
        · rw [if_neg c4] at H
          have c4b0 : decide (0 ≤ x5_1) = false := decide_eq_false c4
          clear c4
          obtain rfl := Option.some.inj H
          go_wp2
          repeat (go_quiet (fail); try go_wp2)
          go_ret
          exact ⟨by first | rfl | (simp; done) | (simp [*]; done) | (simp; exact isEmpty_bne _), by repeat (first | exact Drawn0.refl _ | apply Drawn0.step)⟩
  · rw [if_neg c3] at H
    have c3b0 : ((l0.length : Int) == (l1.length : Int)) = false := beq_eq_false_iff_ne.mpr c3
    have c3b1 : ((l0.length : Int) != (l1.length : Int)) = true := bne_iff_ne.mpr c3
    have c3b2 : (l0.length == l1.length) = false := by first | simpa using c3 | (simp at c3 ⊢; omega)
    by_cases c10 : (l0.length : Int) < (l1.length : Int)
    · rw [if_pos c10] at H
      have c10b0 : decide ((l0.length : Int) < (l1.length : Int)) = true := decide_eq_true c10
      have c10b1 : decide (l0.length < l1.length) = true := decide_eq_true (Int.ofNat_lt.mp c10)
      clear c10
      obtain rfl := Option.some.inj H
      go_enter Tryd.func34, Tryd.ntmps34
      go_wp2
      repeat (go_quiet (fail); try go_wp2)
      go_ret
      exact ⟨by first | rfl | (simp; done) | (simp [*]; done) | (simp; exact isEmpty_bne _), by repeat (first | exact Drawn0.refl _ | apply Drawn0.step)⟩
    · rw [if_neg c10] at H
      have c10b0 : decide ((l0.length : Int) < (l1.length : Int)) = false := decide_eq_false c10
      have c10b1 : decide (l0.length < l1.length) = false := decide_eq_false (fun h => c10 (Int.ofNat_lt.mpr h))
      clear c10
      obtain rfl := Option.some.inj H
      go_enter Tryd.func34, Tryd.ntmps34
      go_wp2
      repeat (go_quiet (fail); try go_wp2)
      go_ret
      exact ⟨by first | rfl | (simp; done) | (simp [*]; done) | (simp; exact isEmpty_bne _), by repeat (first | exact Drawn0.refl _ | apply Drawn0.step)⟩

/-! ### samphireref02_Sub: function 35 -/
set_option maxHeartbeats 8000000 in
set_option maxRecDepth 100000 in
theorem samphireref02_Sub.calls (k : Nat) (A0 : Option Addr) (c0 : Nat) (l0 : List Int) (A1 : Option Addr) (c1 : Nat) (l1 : List Int) (r : List Int) (w : World) (hr0 : Kd.C (Kd.int .u32) w A0 l0.length l0) (hc0 : l0.length ≤ c0) (hr1 : Kd.C (Kd.int .u32) w A1 l1.length l1) (hc1 : l1.length ≤ c1) (h : samphireref02_Sub.f k l0 l1 = some r) :
    Calls Tryd.prog 35 #[.slice A0 l0.length c0, .slice A1 l1.length c1] w fun e w' => ∃ v0_ : Value, e = .returned (v0_) ∧ Kd.R (Kd.int .u32) 36 w' w.heap.size (fun _ => True) v0_ r ∧ Below w.heap.size w w' := by
  have HR0 := Aside0.mk hr0
  have HC0 := Aside0.mk hc0
  clear hr0 hc0
  have HR1 := Aside0.mk hr1
  have HC1 := Aside0.mk hc1
  clear hr1 hc1
  have HB := Aside0.mk (Below.refl w.heap.size w)
  have H : ((samphireref02_Half.f k l0 (wrap64 (2 * (l0.length : Int)))).bind fun t385 => ((samphireref02_Half.f k l1 (wrap64 (2 * (l0.length : Int)))).bind fun t388 => (samphireref02_Sub.l0 k (wrap64 (2 * (l0.length : Int))) t385 t388 0 0))) = some r := h
  clear h
  obtain ⟨t385, A3, H⟩ := bind_p H
  obtain ⟨t388, A4, H⟩ := bind_p H
  have H' := Aside0.mk H
  clear H
  go_enter Tryd.func35, Tryd.ntmps35
  go_wp2_with (first | (go_at_call 47; (with_reducible refine (samphireref02_Half.calls k _ _ l0 (wrap64 (2 * (l0.length : Int))) t385 _ ?side1 ?side2 A3.out).mono ?_); (case side1 => repeat (first | exact HR0.out | (with_reducible refine Kd.C_alloc ?_ _) | (with_reducible refine Kd.C_drewN ?_ _) | (with_reducible refine Kd.C_drew ?_))); (case side2 => exact HC0.out); rintro e w5 ⟨v386, rfl, ho0, hb⟩; have n0_ := Aside0.mk (Kd.R_lower ho0 (below_size BL)); have n1_ := Aside0.mk (below_step BL hb); clear HB; have HO387 := n0_; have HB := n1_; clear n0_ n1_; (try clear hb); (try clear hb2); (try clear hk); (try clear hi); (try clear ho0)) | (go_at_call 47; (with_reducible refine (samphireref02_Half.calls k _ _ l1 (wrap64 (2 * (l0.length : Int))) t388 _ ?side1 ?side2 A4.out).mono ?_); (case side1 => exact CB HR1); (case side2 => exact HC1.out); rintro e w6 ⟨v389, rfl, ho0, hb⟩; have n0_ := Aside0.mk (Kd.R_elder' (RL HO387) (Kd.R_base ho0) hb); have n1_ := Aside0.mk (Kd.R_lower (Kd.R_new' ho0 (Kd.R_lt (RL HO387))) (below_size BL)); have n2_ := Aside0.mk (below_step BL hb); clear HO387; clear HB; have HO387 := n0_; have HO390 := n1_; have HB := n2_; clear n0_ n1_ n2_; (try clear hb); (try clear hb2); (try clear hk); (try clear hi); (try clear ho0)))
  repeat (go_quiet (first | (go_at_call 47; (with_reducible refine (samphireref02_Half.calls k _ _ l0 (wrap64 (2 * (l0.length : Int))) t385 _ ?side1 ?side2 A3.out).mono ?_); (case side1 => repeat (first | exact HR0.out | (with_reducible refine Kd.C_alloc ?_ _) | (with_reducible refine Kd.C_drewN ?_ _) | (with_reducible refine Kd.C_drew ?_))); (case side2 => exact HC0.out); rintro e w5 ⟨v386, rfl, ho0, hb⟩; have n0_ := Aside0.mk (Kd.R_lower ho0 (below_size BL)); have n1_ := Aside0.mk (below_step BL hb); clear HB; have HO387 := n0_; have HB := n1_; clear n0_ n1_; (try clear hb); (try clear hb2); (try clear hk); (try clear hi); (try clear ho0)) | (go_at_call 47; (with_reducible refine (samphireref02_Half.calls k _ _ l1 (wrap64 (2 * (l0.length : Int))) t388 _ ?side1 ?side2 A4.out).mono ?_); (case side1 => exact CB HR1); (case side2 => exact HC1.out); rintro e w6 ⟨v389, rfl, ho0, hb⟩; have n0_ := Aside0.mk (Kd.R_elder' (RL HO387) (Kd.R_base ho0) hb); have n1_ := Aside0.mk (Kd.R_lower (Kd.R_new' ho0 (Kd.R_lt (RL HO387))) (below_size BL)); have n2_ := Aside0.mk (below_step BL hb); clear HO387; clear HB; have HO387 := n0_; have HO390 := n1_; have HB := n2_; clear n0_ n1_ n2_; (try clear hb); (try clear hb2); (try clear hk); (try clear hi); (try clear ho0))); try go_wp2_with (first | (go_at_call 47; (with_reducible refine (samphireref02_Half.calls k _ _ l0 (wrap64 (2 * (l0.length : Int))) t385 _ ?side1 ?side2 A3.out).mono ?_); (case side1 => repeat (first | exact HR0.out | (with_reducible refine Kd.C_alloc ?_ _) | (with_reducible refine Kd.C_drewN ?_ _) | (with_reducible refine Kd.C_drew ?_))); (case side2 => exact HC0.out); rintro e w5 ⟨v386, rfl, ho0, hb⟩; have n0_ := Aside0.mk (Kd.R_lower ho0 (below_size BL)); have n1_ := Aside0.mk (below_step BL hb); clear HB; have HO387 := n0_; have HB := n1_; clear n0_ n1_; (try clear hb); (try clear hb2); (try clear hk); (try clear hi); (try clear ho0)) | (go_at_call 47; (with_reducible refine (samphireref02_Half.calls k _ _ l1 (wrap64 (2 * (l0.length : Int))) t388 _ ?side1 ?side2 A4.out).mono ?_); (case side1 => exact CB HR1); (case side2 => exact HC1.out); rintro e w6 ⟨v389, rfl, ho0, hb⟩; have n0_ := Aside0.mk (Kd.R_elder' (RL HO387) (Kd.R_base ho0) hb); have n1_ := Aside0.mk (Kd.R_lower (Kd.R_new' ho0 (Kd.R_lt (RL HO387))) (below_size BL)); have n2_ := Aside0.mk (below_step BL hb); clear HO387; clear HB; have HO387 := n0_; have HO390 := n1_; have HB := n2_; clear n0_ n1_ n2_; (try clear hb); (try clear hb2); (try clear hk); (try clear hi); (try clear ho0))))
  go_loopg [8, 9] k (fun kq v8 v9 w' => ∃ (x6_1 : List Int) (x8_1 : Int) (x9_1 : Int), v8 = .int .u64 x8_1 ∧ v9 = .int .i64 x9_1 ∧ Aside0 (samphireref02_Sub.l0 kq (wrap64 (2 * (l0.length : Int))) x6_1 t388 x8_1 x9_1 = some r) ∧ Aside0 (kq ≤ k) ∧ Aside0 (Kd.R (Kd.int .u64) 37 w' w.heap.size (fun k_ => some k_ ≠ (v389 : Value).ownBlock) v386 x6_1) ∧ Aside0 (Kd.R (Kd.int .u64) 37 w' w.heap.size (fun k_ => some k_ ≠ (v386 : Value).ownBlock) v389 t388) ∧ Aside0 (Below w.heap.size w w'))
  case atStart => exact ⟨(t385), (0), (0), (by first | rfl | (simp; done) | (simp [*]; done) | (simp; exact isEmpty_bne _)), (by first | rfl | (simp; done) | (simp [*]; done) | (simp; exact isEmpty_bne _)), H', ⟨Nat.le_refl _⟩, ⟨by (with_reducible repeat (first | apply Kd.R_alloc | apply Kd.R_drewN | apply Kd.R_drew)); exact Kd.R_mono HO387.out (fun _ hk => hk.2)⟩, ⟨by (with_reducible repeat (first | apply Kd.R_alloc | apply Kd.R_drewN | apply Kd.R_drew)); exact Kd.R_mono HO390.out (fun _ hk => hk.2)⟩, ⟨BL⟩⟩
  case round =>
    clear H'
    try clear c1
    try clear p2
    try clear c3
    try clear p6
    obtain ⟨x6_1, x8_1, x9_1, rfl, rfl, HA, HK1, HO_6, HO_7, HB⟩ := hrel
    cases gk with
    | zero => exact absurd HA.out (by simp [samphireref02_Sub.l0])
    | succ k1 =>
      have H := HA.out
      clear HA
      simp only [samphireref02_Sub.l0] at H
      by_cases c7 : x9_1 < (wrap64 (2 * (l0.length : Int)))
      · rw [if_pos c7] at H
        have c7b0 : decide (x9_1 < (wrap64 (2 * (l0.length : Int)))) = true := decide_eq_true c7
        clear c7
        obtain ⟨c8, H⟩ := ite_p H
        have c8b0 : decide (0 ≤ x9_1) = true := decide_eq_true c8
        clear c8
        obtain ⟨c9, H⟩ := ite_p H
        have c9b0 : decide (x9_1 < (x6_1.length : Int)) = true := decide_eq_true c9
        clear c9
        obtain ⟨c10, H⟩ := ite_p H
        have c10b0 : decide (x9_1 < (t388.length : Int)) = true := decide_eq_true c10
        clear c10
        obtain ⟨y393, Ny393⟩ := let_p (x6_1.set (x9_1 : Int).toNat (Int.tmod (IntKind.u64.wrap ((IntKind.u64.wrap ((IntKind.u64.wrap (65536 + (rd x6_1 x9_1))) - (rd t388 x9_1))) - x8_1)) 65536) : List Int)
        (first | rw [← Ny393.out] at H | simp only [← Ny393.out] at H)
        have H' := Aside0.mk H
        clear H
        obtain ⟨Ao12, co12, eo12⟩ := Kd.R_slice HO_6.out
        subst eo12
        have p391 : 0 ≤ (x9_1 : Int) := DA
        have q391 : x9_1 < (x6_1.length : Int) := DA
        obtain ⟨ad391, e391, hx391_0⟩ := Kd.at_int (Kd.R_reads' HO_6.out).2.2 x9_1 p391 q391
        cases e391
        replace p391 := eq_true p391
        replace q391 := eq_true q391
        obtain ⟨Ao13, co13, eo13⟩ := Kd.R_slice HO_7.out
        subst eo13
        have p392 : 0 ≤ (x9_1 : Int) := DA
        have q392 : x9_1 < (t388.length : Int) := DA
        obtain ⟨ad392, e392, hx392_0⟩ := Kd.at_int (Kd.R_reads' HO_7.out).2.2 x9_1 p392 q392
        cases e392
        replace p392 := eq_true p392
        replace q392 := eq_true q392
        have p11 : 0 ≤ (x9_1 : Int) := DA
        have q11 : (x9_1 : Int) < ((x6_1.length : Int) : Int) := DA
        obtain ⟨go11, co11, eo11, gb11, gl11, cl11, HG11⟩ := Kd.R_form HO_6.out (by omega)
        (first | cases eo11 | (injection eo11 with ea_ en_ ec_; (first | subst ea_ | (injection ea_ with ea_; subst ea_)); subst ec_; clear en_))
        have GB11 := Aside0.mk gb11
        have GG11 := Aside0.mk HG11
        clear gb11 gl11 HG11
        (first | simp only [add_plain] at hx391_0 | skip)
        obtain ⟨hx11_0, hf11_0⟩ := Kd.R_celln 0 HO_6.out (x9_1 : Int) p11 q11
        replace p11 := eq_true p11
        replace q11 := eq_true q11
        have HP14 := Kd.R_putg HO_6.out (x9_1 : Int) (Int.tmod (IntKind.u64.wrap ((IntKind.u64.wrap ((IntKind.u64.wrap (65536 + (rd x6_1 x9_1))) - (rd t388 x9_1))) - x8_1)) 65536)
        go_wp2_with (first | ((with_reducible refine gate_store (t := 37) (p := 41) rfl ?_); (try (rw [drewN_self wr]; generalize hq_ : World.drewN wr _ = wr; have n0_ := Aside0.mk (Kd.R_at hq_ HO_6.out); have n1_ := Aside0.mk (Kd.R_at hq_ HO_7.out); have n2_ := Aside0.mk (below_at hq_ HB.out); clear hq_ HO_6 HO_7 HB; have HO_6 := n0_; have HO_7 := n1_; have HB := n2_; clear n0_ n1_ n2_; (try (obtain ⟨hx11_0, hf11_0⟩ := Kd.R_celln 0 HO_6.out (x9_1 : Int) (of_eq_true p11) (of_eq_true q11))); (try (have HP14 := Kd.R_putg HO_6.out (x9_1 : Int) (Int.tmod (IntKind.u64.wrap ((IntKind.u64.wrap ((IntKind.u64.wrap (65536 + (rd x6_1 x9_1))) - (rd t388 x9_1))) - x8_1)) 65536))))); refine store_event (t := 37) (p := 41) (v := ?vo_w15) (w1 := (wr.setCell ⟨go11, (x9_1 : Int).toNat, none⟩ (.int .u64 (Int.tmod (IntKind.u64.wrap ((IntKind.u64.wrap ((IntKind.u64.wrap (65536 + (rd x6_1 x9_1))) - (rd t388 x9_1))) - x8_1)) 65536)))) ?hg ?ho ?hn ?hr ?_; (case ho => rfl); (case hg => rfl); (case hn => rfl); (case hr => first | (go_simp; done) | (go_simp; rfl)); intro w15 hw; have hg : wr.grownBy w15 (some go11) := (by rw [hw]; exact HP14.2); have hp_ : Kd.R (Kd.int .u64) 37 w15 w.heap.size (fun k_ => some k_ ≠ (.slice (some ad392) t388.length co13 : Value).ownBlock) (.slice (some ⟨go11, 0, none⟩) x6_1.length co12) y393 := (by rw [hw, Ny393.out]; exact HP14.1); clear HP14; have n0_ := Aside0.mk (hp_); have n1_ := Aside0.mk (Kd.R_after (v := (.slice (some ⟨go11, 0, none⟩) x6_1.length co12)) (v1 := (.slice (some ⟨go11, 0, none⟩) x6_1.length co12)) (ok := (fun _ => True)) (by (with_reducible repeat (first | apply Kd.R_alloc | apply Kd.R_drewN | apply Kd.R_drew)); exact Kd.R_mono HO_7.out (fun _ hk => ⟨trivial, hk⟩)) hg (.inl rfl)); have n2_ := Aside0.mk ((by rw [hw]; exact below_set (HB.out) GB11.out : Below w.heap.size w w15)); clear HO_6; clear HO_7; clear HB; have HO_6 := n0_; have HO_7 := n1_; have HB := n2_; clear n0_ n1_ n2_; clear hg hw hp_))
        repeat (go_quiet (first | ((with_reducible refine gate_store (t := 37) (p := 41) rfl ?_); (try (rw [drewN_self wr]; generalize hq_ : World.drewN wr _ = wr; have n0_ := Aside0.mk (Kd.R_at hq_ HO_6.out); have n1_ := Aside0.mk (Kd.R_at hq_ HO_7.out); have n2_ := Aside0.mk (below_at hq_ HB.out); clear hq_ HO_6 HO_7 HB; have HO_6 := n0_; have HO_7 := n1_; have HB := n2_; clear n0_ n1_ n2_; (try (obtain ⟨hx11_0, hf11_0⟩ := Kd.R_celln 0 HO_6.out (x9_1 : Int) (of_eq_true p11) (of_eq_true q11))); (try (have HP14 := Kd.R_putg HO_6.out (x9_1 : Int) (Int.tmod (IntKind.u64.wrap ((IntKind.u64.wrap ((IntKind.u64.wrap (65536 + (rd x6_1 x9_1))) - (rd t388 x9_1))) - x8_1)) 65536))))); refine store_event (t := 37) (p := 41) (v := ?vo_w15) (w1 := (wr.setCell ⟨go11, (x9_1 : Int).toNat, none⟩ (.int .u64 (Int.tmod (IntKind.u64.wrap ((IntKind.u64.wrap ((IntKind.u64.wrap (65536 + (rd x6_1 x9_1))) - (rd t388 x9_1))) - x8_1)) 65536)))) ?hg ?ho ?hn ?hr ?_; (case ho => rfl); (case hg => rfl); (case hn => rfl); (case hr => first | (go_simp; done) | (go_simp; rfl)); intro w15 hw; have hg : wr.grownBy w15 (some go11) := (by rw [hw]; exact HP14.2); have hp_ : Kd.R (Kd.int .u64) 37 w15 w.heap.size (fun k_ => some k_ ≠ (.slice (some ad392) t388.length co13 : Value).ownBlock) (.slice (some ⟨go11, 0, none⟩) x6_1.length co12) y393 := (by rw [hw, Ny393.out]; exact HP14.1); clear HP14; have n0_ := Aside0.mk (hp_); have n1_ := Aside0.mk (Kd.R_after (v := (.slice (some ⟨go11, 0, none⟩) x6_1.length co12)) (v1 := (.slice (some ⟨go11, 0, none⟩) x6_1.length co12)) (ok := (fun _ => True)) (by (with_reducible repeat (first | apply Kd.R_alloc | apply Kd.R_drewN | apply Kd.R_drew)); exact Kd.R_mono HO_7.out (fun _ hk => ⟨trivial, hk⟩)) hg (.inl rfl)); have n2_ := Aside0.mk ((by rw [hw]; exact below_set (HB.out) GB11.out : Below w.heap.size w w15)); clear HO_6; clear HO_7; clear HB; have HO_6 := n0_; have HO_7 := n1_; have HB := n2_; clear n0_ n1_ n2_; clear hg hw hp_)); try go_wp2_with (first | ((with_reducible refine gate_store (t := 37) (p := 41) rfl ?_); (try (rw [drewN_self wr]; generalize hq_ : World.drewN wr _ = wr; have n0_ := Aside0.mk (Kd.R_at hq_ HO_6.out); have n1_ := Aside0.mk (Kd.R_at hq_ HO_7.out); have n2_ := Aside0.mk (below_at hq_ HB.out); clear hq_ HO_6 HO_7 HB; have HO_6 := n0_; have HO_7 := n1_; have HB := n2_; clear n0_ n1_ n2_; (try (obtain ⟨hx11_0, hf11_0⟩ := Kd.R_celln 0 HO_6.out (x9_1 : Int) (of_eq_true p11) (of_eq_true q11))); (try (have HP14 := Kd.R_putg HO_6.out (x9_1 : Int) (Int.tmod (IntKind.u64.wrap ((IntKind.u64.wrap ((IntKind.u64.wrap (65536 + (rd x6_1 x9_1))) - (rd t388 x9_1))) - x8_1)) 65536))))); refine store_event (t := 37) (p := 41) (v := ?vo_w15) (w1 := (wr.setCell ⟨go11, (x9_1 : Int).toNat, none⟩ (.int .u64 (Int.tmod (IntKind.u64.wrap ((IntKind.u64.wrap ((IntKind.u64.wrap (65536 + (rd x6_1 x9_1))) - (rd t388 x9_1))) - x8_1)) 65536)))) ?hg ?ho ?hn ?hr ?_; (case ho => rfl); (case hg => rfl); (case hn => rfl); (case hr => first | (go_simp; done) | (go_simp; rfl)); intro w15 hw; have hg : wr.grownBy w15 (some go11) := (by rw [hw]; exact HP14.2); have hp_ : Kd.R (Kd.int .u64) 37 w15 w.heap.size (fun k_ => some k_ ≠ (.slice (some ad392) t388.length co13 : Value).ownBlock) (.slice (some ⟨go11, 0, none⟩) x6_1.length co12) y393 := (by rw [hw, Ny393.out]; exact HP14.1); clear HP14; have n0_ := Aside0.mk (hp_); have n1_ := Aside0.mk (Kd.R_after (v := (.slice (some ⟨go11, 0, none⟩) x6_1.length co12)) (v1 := (.slice (some ⟨go11, 0, none⟩) x6_1.length co12)) (ok := (fun _ => True)) (by (with_reducible repeat (first | apply Kd.R_alloc | apply Kd.R_drewN | apply Kd.R_drew)); exact Kd.R_mono HO_7.out (fun _ hk => ⟨trivial, hk⟩)) hg (.inl rfl)); have n2_ := Aside0.mk ((by rw [hw]; exact below_set (HB.out) GB11.out : Below w.heap.size w w15)); clear HO_6; clear HO_7; clear HB; have HO_6 := n0_; have HO_7 := n1_; have HB := n2_; clear n0_ n1_ n2_; clear hg hw hp_)))
        go_roundg k1
        case measure => have := HK1.out; omega
        case rel => exact ⟨(y393), (IntKind.u64.wrap (1 - (IntKind.u64.wrap (Int.tdiv (IntKind.u64.wrap ((IntKind.u64.wrap ((IntKind.u64.wrap (65536 + (rd x6_1 x9_1))) - (rd t388 x9_1))) - x8_1)) 65536)))), (wrap64 (x9_1 + 1)), (by first | rfl | (simp; done) | (simp [*]; done) | (simp; exact isEmpty_bne _)), (by first | rfl | (simp; done) | (simp [*]; done) | (simp; exact isEmpty_bne _)), H', ⟨by have := HK1.out; omega⟩, ⟨by (with_reducible repeat (first | apply Kd.R_alloc | apply Kd.R_drewN | apply Kd.R_drew)); exact HO_6.out⟩, ⟨by (with_reducible repeat (first | apply Kd.R_alloc | apply Kd.R_drewN | apply Kd.R_drew)); exact Kd.R_mono HO_7.out (fun _ hk => hk.2)⟩, ⟨BL⟩⟩
      · rw [if_neg c7] at H
        have c7b0 : decide (x9_1 < (wrap64 (2 * (l0.length : Int)))) = false := decide_eq_false c7
        clear c7
        obtain ⟨t394, A16, H⟩ := bind_p H
        obtain rfl := Option.some.inj H
        obtain ⟨Ao17, co17, eo17⟩ := Kd.R_slice HO_6.out
        subst eo17
        go_wp2_with (first | (go_at_call 48; (with_reducible refine (samphireref02_Whole.calls k1 _ _ x6_1 t394 _ ?side1 ?side2 A16.out).mono ?_); (case side1 => exact RR HO_6); (case side2 => exact (Kd.R_reads' HO_6.out).2.1); rintro e w18 ⟨v395, rfl, ho0, hb⟩; have n0_ := Aside0.mk (Kd.R_below (RL HO_6) hb); have n1_ := Aside0.mk (Kd.R_below (RL HO_7) hb); have n2_ := Aside0.mk (Kd.R_lower ho0 (below_size BL)); have n3_ := Aside0.mk (below_step BL hb); clear HO_6; clear HO_7; clear HB; have HO_6 := n0_; have HO_7 := n1_; have HO396 := n2_; have HB := n3_; clear n0_ n1_ n2_ n3_; (try clear hb); (try clear hb2); (try clear hk); (try clear hi); (try clear ho0)))
        repeat (go_quiet (first | (go_at_call 48; (with_reducible refine (samphireref02_Whole.calls k1 _ _ x6_1 t394 _ ?side1 ?side2 A16.out).mono ?_); (case side1 => exact RR HO_6); (case side2 => exact (Kd.R_reads' HO_6.out).2.1); rintro e w18 ⟨v395, rfl, ho0, hb⟩; have n0_ := Aside0.mk (Kd.R_below (RL HO_6) hb); have n1_ := Aside0.mk (Kd.R_below (RL HO_7) hb); have n2_ := Aside0.mk (Kd.R_lower ho0 (below_size BL)); have n3_ := Aside0.mk (below_step BL hb); clear HO_6; clear HO_7; clear HB; have HO_6 := n0_; have HO_7 := n1_; have HO396 := n2_; have HB := n3_; clear n0_ n1_ n2_ n3_; (try clear hb); (try clear hb2); (try clear hk); (try clear hi); (try clear ho0))); try go_wp2_with (first | (go_at_call 48; (with_reducible refine (samphireref02_Whole.calls k1 _ _ x6_1 t394 _ ?side1 ?side2 A16.out).mono ?_); (case side1 => exact RR HO_6); (case side2 => exact (Kd.R_reads' HO_6.out).2.1); rintro e w18 ⟨v395, rfl, ho0, hb⟩; have n0_ := Aside0.mk (Kd.R_below (RL HO_6) hb); have n1_ := Aside0.mk (Kd.R_below (RL HO_7) hb); have n2_ := Aside0.mk (Kd.R_lower ho0 (below_size BL)); have n3_ := Aside0.mk (below_step BL hb); clear HO_6; clear HO_7; clear HB; have HO_6 := n0_; have HO_7 := n1_; have HO396 := n2_; have HB := n3_; clear n0_ n1_ n2_ n3_; (try clear hb); (try clear hb2); (try clear hk); (try clear hi); (try clear ho0))))
        go_ret
        exact ⟨_, by first | rfl | (simp [errW_none, errW_some] <;> rfl) | (simp [*, errW_none, errW_some] <;> rfl), by (with_reducible repeat (first | apply Kd.R_alloc | apply Kd.R_drewN | apply Kd.R_drew)); exact HO396.out, BL⟩

/-! ### samphireref02_Bits: function 37 -/
set_option maxHeartbeats 8000000 in
set_option maxRecDepth 100000 in
theorem samphireref02_Bits.calls (k : Nat) (A0 : Option Addr) (c0 : Nat) (l0 : List Int) (r : Int) (w : World) (hr0 : Kd.C (Kd.int .u32) w A0 l0.length l0) (hc0 : l0.length ≤ c0) (h : samphireref02_Bits.f k l0 = some r) :
    Calls Tryd.prog 37 #[.slice A0 l0.length c0] w fun e w' => e = .returned (.int .i64 r) ∧ Drawn0 w w' := by
  have HR0 := Aside0.mk hr0
  have HC0 := Aside0.mk hc0
  clear hr0 hc0
  have H : (samphireref02_Bits.l0 k l0 0 0) = some r := h
  clear h
  have H' := Aside0.mk H
  clear H
  go_enter Tryd.func37, Tryd.ntmps37
  go_wp2
  go_loopg [3, 4] k (fun kq v3 v4 w' => ∃ (x3_1 : Int) (x4_1 : Int), v3 = .int .i64 x3_1 ∧ v4 = .int .i64 x4_1 ∧ Aside0 (samphireref02_Bits.l0 kq l0 x3_1 x4_1 = some r) ∧ Aside0 (kq ≤ k) ∧ Drawn0 w w')
  case atStart => exact ⟨(0), (0), (by first | rfl | (simp; done) | (simp [*]; done) | (simp; exact isEmpty_bne _)), (by first | rfl | (simp; done) | (simp [*]; done) | (simp; exact isEmpty_bne _)), H', ⟨Nat.le_refl _⟩, by repeat (first | exact Drawn0.refl _ | apply Drawn0.step)⟩
  case round =>
    clear H'
    obtain ⟨x3_1, x4_1, rfl, rfl, HA, HK1, ⟨m1, rfl⟩⟩ := hrel
    cases gk with
    | zero => exact absurd HA.out (by simp [samphireref02_Bits.l0])
    | succ k1 =>
      have H := HA.out
      clear HA
      simp only [samphireref02_Bits.l0] at H
      by_cases c2 : x4_1 < (l0.length : Int)
      · rw [if_pos c2] at H
        have c2b0 : decide (x4_1 < (l0.length : Int)) = true := decide_eq_true c2
        clear c2
        have H' := Aside0.mk H
        clear H
        go_wp2
        go_loopg [3, 5] k1 (fun kq v3 v5 w' => ∃ (x3_2 : Int) (x5_2 : Int), v3 = .int .i64 x3_2 ∧ v5 = .int .i64 x5_2 ∧ Aside0 (samphireref02_Bits.l1 kq l0 x3_2 x4_1 x5_2 = some r) ∧ Aside0 (kq ≤ k1) ∧ Drawn0 w w')
        case atStart => exact ⟨(x3_1), (0), (by first | rfl | (simp; done) | (simp [*]; done) | (simp; exact isEmpty_bne _)), (by first | rfl | (simp; done) | (simp [*]; done) | (simp; exact isEmpty_bne _)), H', ⟨Nat.le_refl _⟩, by repeat (first | exact Drawn0.refl _ | apply Drawn0.step)⟩
        case round =>
          clear H'
          try clear c2
          try clear c2b0
          try clear p2
          obtain ⟨x3_2, x5_2, rfl, rfl, HA, HK2, ⟨m2, rfl⟩⟩ := hrel
          cases gk with
          | zero => exact absurd HA.out (by simp [samphireref02_Bits.l1])
          | succ k2 =>
            have H := HA.out
            clear HA
            simp only [samphireref02_Bits.l1] at H
            by_cases c3 : x5_2 < 32
            · rw [if_pos c3] at H
              have c3b0 : decide (x5_2 < 32) = true := decide_eq_true c3
              clear c3
              obtain ⟨c4, H⟩ := ite_p H
              have c4b0 : decide (0 ≤ x4_1) = true := decide_eq_true c4
              clear c4
              obtain ⟨c5, H⟩ := ite_p H
              have c5b0 : decide (x4_1 < (l0.length : Int)) = true := decide_eq_true c5
              clear c5
              obtain ⟨ji6, hji6⟩ := let_j (IntKind.u64.wrap (x5_2))
              (first | rw [hji6] at H | simp only [hji6] at H ⊢)
              obtain ⟨c7, H⟩ := ite_p H
              have c7b0 := eq_true c7
              have c7b1 : decide (0 ≤ (ji6)) = true := decide_eq_true c7
              clear c7
              obtain ⟨ji8, hji8⟩ := let_j (shr .u32 (rd l0 x4_1) (ji6))
              (first | rw [hji8] at H | simp only [hji8] at H ⊢)
              have hji8_ : ((rd l0 x4_1) / 2 ^ min (ji6).toNat 32) = ji8 := hji8
              have hji8z : (ji6) ≤ 32 → ((rd l0 x4_1) / 2 ^ (ji6).toNat) = ji8 := shr_small hji8
              by_cases c9 : (Int.tmod (ji8) 2) = 1
              · rw [if_pos c9] at H
                have c9b0 : ((Int.tmod (ji8) 2) == 1) = true := beq_iff_eq.mpr c9
                have c9b1 : ((Int.tmod (ji8) 2) != 1) = false := bne_eq_false_iff_eq.mpr c9
                clear c9
                have H' := Aside0.mk H
                clear H
                have p444 : 0 ≤ (x4_1 : Int) := DA
                have q444 : x4_1 < (l0.length : Int) := DA
                obtain ⟨ad444, e444, hx444_0⟩ := Kd.at_int HR0.out x4_1 p444 q444
                cases e444
                replace p444 := eq_true p444
                replace q444 := eq_true q444
                go_wp2
                go_roundg k2
                case measure => have := HK1.out; have := HK2.out; omega
                case rel => exact ⟨(wrap64 ((wrap64 ((wrap64 (32 * x4_1)) + x5_2)) + 1)), (wrap64 (x5_2 + 1)), (by first | rfl | (simp; done) | (simp [*]; done) | (simp; exact isEmpty_bne _)), (by first | rfl | (simp; done) | (simp [*]; done) | (simp; exact isEmpty_bne _)), H', ⟨by have := HK1.out; have := HK2.out; omega⟩, by repeat (first | exact Drawn0.refl _ | apply Drawn0.step)⟩
              · rw [if_neg c9] at H
                have c9b0 : ((Int.tmod (ji8) 2) == 1) = false := beq_eq_false_iff_ne.mpr c9
                have c9b1 : ((Int.tmod (ji8) 2) != 1) = true := bne_iff_ne.mpr c9
                have H' := Aside0.mk H
                clear H
                have p444 : 0 ≤ (x4_1 : Int) := DA
                have q444 : x4_1 < (l0.length : Int) := DA
                obtain ⟨ad444, e444, hx444_0⟩ := Kd.at_int HR0.out x4_1 p444 q444
                cases e444
                replace p444 := eq_true p444
                replace q444 := eq_true q444
                go_wp2
                go_roundg k2
                case measure => have := HK1.out; have := HK2.out; omega
                case rel => exact ⟨(x3_2), (wrap64 (x5_2 + 1)), (by first | rfl | (simp; done) | (simp [*]; done) | (simp; exact isEmpty_bne _)), (by first | rfl | (simp; done) | (simp [*]; done) | (simp; exact isEmpty_bne _)), H', ⟨by have := HK1.out; have := HK2.out; omega⟩, by repeat (first | exact Drawn0.refl _ | apply Drawn0.step)⟩
            · rw [if_neg c3] at H
              have c3b0 : decide (x5_2 < 32) = false := decide_eq_false c3
              clear c3
              have H' := Aside0.mk H
              clear H
              go_wp2
              go_roundg k2
              case measure => have := HK1.out; have := HK2.out; omega
              case rel => exact ⟨(x3_2), (wrap64 (x4_1 + 1)), (by first | rfl | (simp; done) | (simp [*]; done) | (simp; exact isEmpty_bne _)), (by first | rfl | (simp; done) | (simp [*]; done) | (simp; exact isEmpty_bne _)), H', ⟨by have := HK1.out; have := HK2.out; omega⟩, by repeat (first | exact Drawn0.refl _ | apply Drawn0.step)⟩
      · rw [if_neg c2] at H
        have c2b0 : decide (x4_1 < (l0.length : Int)) = false := decide_eq_false c2
        clear c2
        obtain rfl := Option.some.inj H
        go_wp2
        go_ret
        exact ⟨by first | rfl | (simp; done) | (simp [*]; done) | (simp; exact isEmpty_bne _), by repeat (first | exact Drawn0.refl _ | apply Drawn0.step)⟩

end Go.Proofs.YtdgbeejhccogpaaDoor.P
