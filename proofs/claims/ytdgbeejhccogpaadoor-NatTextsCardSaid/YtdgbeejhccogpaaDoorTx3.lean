-- Printed by this session's own program out of the translation.
import Derived.Test.YtdgbeejhccogpaaDoorTx0
import Derived.Test.YtdgbeejhccogpaaDoorTx1
import Derived.Test.YtdgbeejhccogpaaDoorTx2
namespace Go.Proofs.YtdgbeejhccogpaaDoor.T
open Go.RowKit Go.Proofs.YtdgbeejhccogpaaDoorW.PrintWords Go.Proofs.YtdgbeejhccogpaaDoorW.PrintLast Go.Proofs.YtdgbeejhccogpaaDoorW.PrintMore
attribute [local go_sem] max2_int min2_int max_two min_two max_three min_three max_four min_four   -- for this text's walks alone
set_option linter.unusedVariables false
set_option linter.unusedSimpArgs false

/-! ### nat_Read: function 22 -/
def nat_Read.T7 : Bool × List (List Nat × List Nat) := (true, [([], []), ([], []), ([0, 1, 1], [0, 1]), ([], []), ([], []), ([3, 4], [3, 4]), ([5], [5]), ([6], [6]), ([7, 2], [7]), ([2, 8, 8], [2, 8]), ([9, 9, 0, 1, 2, 3, 4, 5, 6, 7, 8, 9], [0, 9])])
def nat_Read.B7 : List Nat := [0, 0, 3, 0, 0, 24, 56, 120, 255, 511, 1023]
theorem nat_Read.tab7 : rtab .any (opsOf Tryd.f22 7) = nat_Read.T7 := by kernel_rfl
theorem nat_Read.bits7 : waitsOk nat_Read.T7.2 nat_Read.B7 = true := by kernel_rfl
set_option maxHeartbeats 8000000 in
set_option maxRecDepth 100000 in
theorem nat_Read.calls (k : Nat) (a0 : ByteArray) (r1 : List Int) (r2 : Int) (w : World) (h : nat_Read.f k a0 = some (r1, r2)) :
    Calls Tryd.prog 22 #[.string a0] w fun e w' => ∃ v0_ : Value, e = .returned (.tuple #[v0_, .int .i64 r2]) ∧ Kd.R (Kd.int .u32) 36 w' w.heap.size (fun _ => True) v0_ r1 ∧ Below w.heap.size w w' := by
  have HB := Aside0.mk (Below.refl w.heap.size w)
  have H : (if a0.toList = ([] : List UInt8) then (nat_Read.j0 k a0 true) else (if 0 < (a0.size : Int) then (if (bt a0 0) = 48 then (if (a0.size : Int) > 1 then (nat_Read.j0 k a0 true) else ((strings_Trim.f a0 (⟨#[48, 49, 50, 51, 52, 53, 54, 55, 56, 57]⟩ : ByteArray)).bind fun t252 => (nat_Read.j0 k a0 (t252.toList != ([] : List UInt8))))) else ((strings_Trim.f a0 (⟨#[48, 49, 50, 51, 52, 53, 54, 55, 56, 57]⟩ : ByteArray)).bind fun t253 => (nat_Read.j0 k a0 (t253.toList != ([] : List UInt8))))) else (none))) = some (r1, r2) := h
  clear h
  have HC2 := Aside0.mk H
  clear H
  go_enter Tryd.func22, Tryd.ntmps22
  go_upto_region 1 with (fail)
  go_cut [22] (fun v22 wc => ∃ (kq : Nat) (x22_1 : Bool), v22 = .bool x22_1 ∧ Aside0 (nat_Read.j0 kq a0 x22_1 = some (r1, r2)) ∧ Aside0 (kq ≤ k) ∧ Aside0 (Below w.heap.size w wc))
  case first =>
    have H := HC2.out
    clear HC2
    by_cases c3 : a0.toList = ([] : List UInt8)
    · rw [if_pos c3] at H
      have c3b0 : (a0.toList == ([] : List UInt8)) = true := beq_iff_eq.mpr c3
      have c3b1 : (a0.toList != ([] : List UInt8)) = false := bne_eq_false_iff_eq.mpr c3
      clear c3
      (first | rw [c3b0] | (simp only [i64_w, i32_w]; rw [c3b0]) | skip)
      have H' := Aside0.mk H
      clear H
      go_wp2
      go_meet
      case rel => exact ⟨_, (true), (by first | rfl | (simp; done) | (simp [*]; done) | (simp; exact isEmpty_bne _)), H', ⟨by first | omega | exact Nat.le_refl _⟩, ⟨BL⟩⟩
    · rw [if_neg c3] at H
      have c3b0 : (a0.toList == ([] : List UInt8)) = false := beq_eq_false_iff_ne.mpr c3
      have c3b1 : (a0.toList != ([] : List UInt8)) = true := bne_iff_ne.mpr c3
      (first | rw [c3b0] | (simp only [i64_w, i32_w]; rw [c3b0]) | skip)
      obtain ⟨c4, H⟩ := ite_p H
      have c4b0 : decide (0 < (a0.size : Int)) = true := decide_eq_true c4
      have c4b1 : decide (0 < a0.size) = true := decide_eq_true (by omega)
      clear c4
      by_cases c6 : (bt a0 0) = 48
      · rw [if_pos c6] at H
        have c6b0 : ((bt a0 0) == 48) = true := beq_iff_eq.mpr c6
        have c6b1 : ((bt a0 0) != 48) = false := bne_eq_false_iff_eq.mpr c6
        clear c6
        by_cases c7 : (a0.size : Int) > 1
        · rw [if_pos c7] at H
          have c7b0 : decide (1 < (a0.size : Int)) = true := decide_eq_true c7
          have c7b1 : decide (1 < a0.size) = true := decide_eq_true (by omega)
          clear c7
          have H' := Aside0.mk H
          clear H
          have p5 : 0 ≤ (0 : Int) := (by omega)
          have q5 : 0 < a0.size := (by have : (0 : Int) < (a0.size : Int) := DA; omega)
          have hx5 : ∀ h : 0 < a0.size, ((a0[0]'h).toNat : Int) = bt a0 0 := bt_at a0 0
          clear p5
          have qi5 : (0 < (a0.size : Int)) = True := eq_true (DA)
          replace q5 := eq_true q5
          go_wp2
          go_meet
          case rel => exact ⟨_, (true), (by first | rfl | (simp; done) | (simp [*]; done) | (simp; exact isEmpty_bne _)), H', ⟨by first | omega | exact Nat.le_refl _⟩, ⟨BL⟩⟩
        · rw [if_neg c7] at H
          have c7b0 : decide (1 < (a0.size : Int)) = false := decide_eq_false c7
          have c7b1 : decide (1 < a0.size) = false := decide_eq_false (by omega)
          clear c7
          obtain ⟨t252, A8, H⟩ := bind_p H
          have H' := Aside0.mk H
          clear H
          have p5 : 0 ≤ (0 : Int) := (by omega)
          have q5 : 0 < a0.size := (by have : (0 : Int) < (a0.size : Int) := DA; omega)
          have hx5 : ∀ h : 0 < a0.size, ((a0[0]'h).toNat : Int) = bt a0 0 := bt_at a0 0
          clear p5
          have qi5 : (0 < (a0.size : Int)) = True := eq_true (DA)
          replace q5 := eq_true q5
          go_wp2_with (first | (go_at_call 49; (with_reducible refine (strings_Trim.calls a0 (⟨#[48, 49, 50, 51, 52, 53, 54, 55, 56, 57]⟩ : ByteArray) t252 _ A8.out).mono ?_); rintro e w9 ⟨rfl, hb⟩; have n0_ := Aside0.mk (below_step BL hb); clear HB; have HB := n0_; clear n0_; (try clear hb); (try clear hb2); (try clear hk); (try clear hi)))
          go_meet
          case rel => exact ⟨_, ((t252.toList != ([] : List UInt8))), (by first | rfl | (simp; done) | (simp [*]; done) | (simp; exact isEmpty_bne _)), H', ⟨by first | omega | exact Nat.le_refl _⟩, ⟨BL⟩⟩
      · rw [if_neg c6] at H
        have c6b0 : ((bt a0 0) == 48) = false := beq_eq_false_iff_ne.mpr c6
        have c6b1 : ((bt a0 0) != 48) = true := bne_iff_ne.mpr c6
        obtain ⟨t253, A10, H⟩ := bind_p H
        have H' := Aside0.mk H
        clear H
        have p5 : 0 ≤ (0 : Int) := (by omega)
        have q5 : 0 < a0.size := (by have : (0 : Int) < (a0.size : Int) := DA; omega)
        have hx5 : ∀ h : 0 < a0.size, ((a0[0]'h).toNat : Int) = bt a0 0 := bt_at a0 0
        clear p5
        have qi5 : (0 < (a0.size : Int)) = True := eq_true (DA)
        replace q5 := eq_true q5
        go_wp2_with (first | (go_at_call 49; (with_reducible refine (strings_Trim.calls a0 (⟨#[48, 49, 50, 51, 52, 53, 54, 55, 56, 57]⟩ : ByteArray) t253 _ A10.out).mono ?_); rintro e w11 ⟨rfl, hb⟩; have n0_ := Aside0.mk (below_step BL hb); clear HB; have HB := n0_; clear n0_; (try clear hb); (try clear hb2); (try clear hk); (try clear hi)))
        go_meet
        case rel => exact ⟨_, ((t253.toList != ([] : List UInt8))), (by first | rfl | (simp; done) | (simp [*]; done) | (simp; exact isEmpty_bne _)), H', ⟨by first | omega | exact Nat.le_refl _⟩, ⟨BL⟩⟩
  case rest =>
    clear HC2
    try clear c2
    try clear p2
    try clear c3
    try clear c3b0
    try clear c3b1
    try clear c4
    try clear c4b0
    try clear c4b1
    try clear p5
    try clear q5
    try clear hx5
    try clear qi5
    try clear c6
    try clear c6b0
    try clear c6b1
    try clear c7
    try clear c7b0
    try clear c7b1
    try clear p5
    try clear q5
    obtain ⟨kq, x22_1, rfl, HA, HJ1, HB⟩ := hcut
    cases kq with
    | zero => exact absurd HA.out (by simp [nat_Read.j0])
    | succ kj1 =>
      have H := HA.out
      clear HA
      simp only [nat_Read.j0] at H
      by_cases c12 : x22_1 = true
      · subst c12
        have H1 : (some (([] : List Int), 2)) = some (r1, r2) := by rw [if_pos rfl] at H; exact H
        clear H
        have H := H1
        clear H1
        simp only [Option.some.injEq, Prod.mk.injEq] at H
        obtain ⟨rfl, rfl⟩ := H
        go_wp2
        go_ret2
        exact ⟨_, by first | rfl | (simp [errW_none, errW_some] <;> rfl) | (simp [*, errW_none, errW_some] <;> rfl), by first | exact Kd.R_nil _ _ _ _ _ | exact Kd.N_nil _ _ _ _ _ | exact Kd.V_nil _ _ _ _ _ | exact Kd.Q_nil _ _ _ _ _ | exact Kd.S_nil _ _ _ _ _, BL⟩
      · replace c12 := Bool.eq_false_iff.mpr c12
        subst c12
        have H1 : (nat_Read.l0 kj1 a0 ([] : List Int) (a0.size : Int) 0) = some (r1, r2) := by rw [if_neg (show ¬ (false = true) by decide)] at H; exact H
        clear H
        have H := H1
        clear H1
        have H' := Aside0.mk H
        clear H
        go_wp2
        go_loopg [4, 25] kj1 (fun kq v4 v25 w' => ∃ (x4_2 : List Int) (x25_2 : Int), v25 = .int .i64 x25_2 ∧ Aside0 (nat_Read.l0 kq a0 x4_2 (a0.size : Int) x25_2 = some (r1, r2)) ∧ Aside0 (kq ≤ kj1) ∧ Aside0 (Kd.R (Kd.int .u32) 36 w' w.heap.size (fun _ => True) v4 x4_2) ∧ Aside0 (Below w.heap.size w w'))
        case atStart => exact ⟨(([] : List Int)), (0), (by first | rfl | (simp; done) | (simp [*]; done) | (simp; exact isEmpty_bne _)), H', ⟨Nat.le_refl _⟩, ⟨by first | exact Kd.R_nil _ _ _ _ _ | exact Kd.N_nil _ _ _ _ _ | exact Kd.V_nil _ _ _ _ _ | exact Kd.Q_nil _ _ _ _ _ | exact Kd.S_nil _ _ _ _ _⟩, ⟨BL⟩⟩
        case round =>
          clear H'
          try clear c1
          try clear c2
          try clear p2
          try clear c3
          try clear c3b0
          try clear c3b1
          try clear c4
          try clear c4b0
          try clear c4b1
          try clear p5
          try clear q5
          try clear hx5
          try clear qi5
          try clear c6
          try clear c6b0
          try clear c6b1
          try clear c7
          try clear c7b0
          try clear c7b1
          try clear c12
          try clear p2
          try clear p5
          try clear q5
          obtain ⟨x4_2, x25_2, rfl, HA, HK2, HO_4, HB⟩ := hrel
          cases gk with
          | zero => exact absurd HA.out (by simp [nat_Read.l0])
          | succ k2 =>
            have H := HA.out
            clear HA
            simp only [nat_Read.l0] at H
            by_cases c13 : x25_2 < (a0.size : Int)
            · rw [if_pos c13] at H
              have c13b0 : decide (x25_2 < (a0.size : Int)) = true := decide_eq_true c13
              clear c13
              obtain ⟨t254, A14, H⟩ := bind_p H
              obtain ⟨t257, A15, H⟩ := bind_p H
              obtain ⟨c16, H⟩ := ite_p H
              have c16b0 : decide (0 ≤ x25_2) = true := decide_eq_true c16
              clear c16
              obtain ⟨c17, H⟩ := ite_p H
              have c17b0 : decide (x25_2 < (a0.size : Int)) = true := decide_eq_true c17
              clear c17
              obtain ⟨t260, A19, H⟩ := bind_p H
              obtain ⟨t263, A20, H⟩ := bind_p H
              by_cases c21 : (t263.length : Int) > 64
              · rw [if_pos c21] at H
                have c21b0 : decide (64 < (t263.length : Int)) = true := decide_eq_true c21
                have c21b1 : decide (64 < t263.length) = true := decide_eq_true (by omega)
                clear c21
                simp only [Option.some.injEq, Prod.mk.injEq] at H
                obtain ⟨rfl, rfl⟩ := H
                try go_wp2
                have n0_ := Aside0.mk (Kd.R_drew HO_4.out)
                have n1_ := Aside0.mk (below_drew1 HB.out)
                clear HO_4
                clear HB
                have HO_4 := n0_
                have HB := n1_
                clear n0_ n1_
                have p18 : 0 ≤ (x25_2 : Int) := DA
                have q18 : x25_2 < (a0.size : Int) := DA
                have hx18 := bt_at a0 x25_2
                replace p18 := eq_true p18
                replace q18 := eq_true q18
                refine start_ (n := 11) (S := fun w' => True) (ds := []) #[false, false, false, false, false, false, false, false, false, false, false] (by kernel_rfl) rfl rfl trivial (fun hHeld => ?_); refine with_tabW nat_Read.tab7 nat_Read.bits7 (fun HT_ HW_ => ?_)
                generalize wr.drew = w22 at HO_4 HB hHeld ⊢
                refine pure_ (i := 0) (N := some 28) (v := ?_) (a' := ?_) #[true, false, false, false, false, false, false, false, false, false, false] rfl rfl (any_of HT_.out (by kernel_rfl)) (fun _ _ _ h => h) (Or.inl ⟨by rfl, ?_⟩) ?_ ?_
                rotate_left
                · intro w'
                  go_simp
                  with_reducible rfl
                rotate_left
                · simp only [Act.put, List.setIfInBounds_toArray, List.set_cons_zero, List.set_cons_succ, i64_w, i32_w]
                  rfl
                refine pure_ (i := 3) (N := some 31) (v := ?_) (a' := ?_) #[true, false, false, true, false, false, false, false, false, false, false] rfl rfl (any_of HT_.out (by kernel_rfl)) (fun _ _ _ h => h) (Or.inl ⟨by rfl, ?_⟩) ?_ ?_
                rotate_left
                · intro w'
                  go_simp
                  with_reducible rfl
                rotate_left
                · simp only [Act.put, List.setIfInBounds_toArray, List.set_cons_zero, List.set_cons_succ, i64_w, i32_w]
                  rfl
                refine pure_ (i := 4) (N := some 32) (v := ?_) (a' := ?_) #[true, false, false, true, true, false, false, false, false, false, false] rfl rfl (any_of HT_.out (by kernel_rfl)) (fun _ _ _ h => h) (Or.inl ⟨by rfl, ?_⟩) ?_ ?_
                rotate_left
                · intro w'
                  go_simp
                  with_reducible rfl
                rotate_left
                · simp only [Act.put, List.setIfInBounds_toArray, List.set_cons_zero, List.set_cons_succ, i64_w, i32_w]
                  rfl
                refine take_ (i := 5) (N := some 33) (v := ?_) (a' := ?_) #[true, false, false, true, true, true, false, false, false, false, false] rfl rfl (take_ofW HT_.out HW_.out (by kernel_rfl)) (fun _ _ _ h => h) (Or.inl ⟨by rfl, ?_⟩) hHeld ?_ ?_
                rotate_left
                · intro w' _
                  go_simp
                  with_reducible rfl
                rotate_left
                · simp only [Act.put, List.setIfInBounds_toArray, List.set_cons_zero, List.set_cons_succ, i64_w, i32_w]
                  rfl
                refine pure_ (i := 6) (N := some 34) (v := ?_) (a' := ?_) #[true, false, false, true, true, true, true, false, false, false, false] rfl rfl (any_of HT_.out (by kernel_rfl)) (fun _ _ _ h => h) (Or.inl ⟨by rfl, ?_⟩) ?_ ?_
                rotate_left
                · intro w'
                  go_simp
                  with_reducible rfl
                rotate_left
                · simp only [Act.put, List.setIfInBounds_toArray, List.set_cons_zero, List.set_cons_succ, i64_w, i32_w]
                  rfl
                refine pure_ (i := 7) (N := some 35) (v := ?_) (a' := ?_) #[true, false, false, true, true, true, true, true, false, false, false] rfl rfl (any_of HT_.out (by kernel_rfl)) (fun _ _ _ h => h) (Or.inl ⟨by rfl, ?_⟩) ?_ ?_
                rotate_left
                · intro w'
                  go_simp
                  with_reducible rfl
                rotate_left
                · simp only [Act.put, List.setIfInBounds_toArray, List.set_cons_zero, List.set_cons_succ, i64_w, i32_w]
                  rfl
                refine one_ (i := 1) (N := some 29) #[true, true, false, true, true, true, true, true, false, false, false] rfl rfl (one_of HT_.out (by kernel_rfl)) (by decide) (fun K hK => ?_)
                refine goes_ Tryd.func28 (by kernel_rfl) rfl #[.int .u64 10] (by rfl) rfl rfl (by (try simp only [List.map_toArray, List.map_cons, List.map_nil]); first | done | rfl | (exact congrArg (fun z_ => #[Value.int .u64 z_]) (u64_u8 _)) | (simp only [List.length_drop, List.length_take]; rfl)) ?_
                with_reducible refine (nat_Of.calls k2 10 t254 _ A14.out).mono ?_
                rintro e w23 ⟨v255, rfl, ho0, hb⟩
                refine ⟨_, rfl, ?_⟩
                have n0_ := Aside0.mk (Kd.R_elder' (RL HO_4) (Kd.R_base ho0) hb)
                have n1_ := Aside0.mk (Kd.R_lower (Kd.R_new' ho0 (Kd.R_lt (RL HO_4))) (below_size BL))
                have n2_ := Aside0.mk (below_step BL hb)
                clear HO_4
                clear HB
                have HO_4 := n0_
                have HO256 := n1_
                have HB := n2_
                clear n0_ n1_ n2_
                (try clear hb)
                (try clear hb2)
                (try clear hk)
                (try clear hi)
                (try clear ho0)
                obtain ⟨Ao24, co24, eo24⟩ := Kd.R_slice HO_4.out
                (first | subst eo24 | (injection eo24 with f1_ f2_ f3_; have f4_ := f1_.symm; have f5_ := f3_.symm; clear f1_ f2_ f3_; subst f4_; subst f5_))
                obtain ⟨Ao25, co25, eo25⟩ := Kd.R_slice HO256.out
                (first | subst eo25 | (injection eo25 with f1_ f2_ f3_; have f4_ := f1_.symm; have f5_ := f3_.symm; clear f1_ f2_ f3_; subst f4_; subst f5_))
                refine hK.out _ _ trivial (fun hHeld => ?_)
                clear hK K
                refine norm_ (a' := ?_) ?_ ?_
                rotate_left
                · show Act.put _ (some 29) _ = _
                  simp only [Act.put, List.setIfInBounds_toArray, List.set_cons_zero, List.set_cons_succ, i64_w, i32_w]
                  rfl
                refine one_ (i := 2) (N := some 30) #[true, true, true, true, true, true, true, true, false, false, false] rfl rfl (one_of HT_.out (by kernel_rfl)) (by decide) (fun K hK => ?_)
                refine goes_ Tryd.func51 (by kernel_rfl) rfl #[.slice Ao24 x4_2.length co24, .slice Ao25 t254.length co25] (by rfl) rfl rfl (by (try simp only [List.map_toArray, List.map_cons, List.map_nil]); first | done | rfl | (exact congrArg (fun z_ => #[Value.int .u64 z_]) (u64_u8 _)) | (simp only [List.length_drop, List.length_take]; rfl)) ?_
                with_reducible refine (nat_times.calls k2 _ _ x4_2 _ _ t254 t257 _ ?side1 ?side2 ?side3 ?side4 A15.out).mono ?_
                (case side1 => exact RR HO_4)
                (case side2 => exact (Kd.R_reads' HO_4.out).2.1)
                (case side3 => exact RR HO256)
                (case side4 => exact (Kd.R_reads' HO256.out).2.1)
                rintro e w26 ⟨v258, rfl, ho0, hb⟩
                refine ⟨_, rfl, ?_⟩
                have n0_ := Aside0.mk (Kd.R_elder' (RL HO_4) (Kd.R_base ho0) hb)
                have n1_ := Aside0.mk (Kd.R_elder' (RL HO256) (Kd.R_base ho0) hb)
                have n2_ := Aside0.mk (Kd.R_lower (Kd.R_new' (Kd.R_new' ho0 (Kd.R_lt (RL HO_4))) (Kd.R_lt (RL HO256))) (below_size BL))
                have n3_ := Aside0.mk (below_step BL hb)
                clear HO_4
                clear HO256
                clear HB
                have HO_4 := n0_
                have HO256 := n1_
                have HO259 := n2_
                have HB := n3_
                clear n0_ n1_ n2_ n3_
                (try clear hb)
                (try clear hb2)
                (try clear hk)
                (try clear hi)
                (try clear ho0)
                refine hK.out _ _ trivial (fun hHeld => ?_)
                clear hK K
                refine norm_ (a' := ?_) ?_ ?_
                rotate_left
                · show Act.put _ (some 30) _ = _
                  simp only [Act.put, List.setIfInBounds_toArray, List.set_cons_zero, List.set_cons_succ, i64_w, i32_w]
                  rfl
                refine one_ (i := 8) (N := some 36) #[true, true, true, true, true, true, true, true, true, false, false] rfl rfl (one_of HT_.out (by kernel_rfl)) (by decide) (fun K hK => ?_)
                refine goes_ Tryd.func28 (by kernel_rfl) rfl #[.int .u64 (((bt a0 x25_2) - 48) % 256)] (by rfl) rfl rfl (by (try simp only [List.map_toArray, List.map_cons, List.map_nil]); first | done | rfl | (exact congrArg (fun z_ => #[Value.int .u64 z_]) (u64_u8 _)) | (simp only [List.length_drop, List.length_take]; rfl)) ?_
                with_reducible refine (nat_Of.calls k2 (((bt a0 x25_2) - 48) % 256) t260 _ A19.out).mono ?_
                rintro e w27 ⟨v261, rfl, ho0, hb⟩
                refine ⟨_, rfl, ?_⟩
                have n0_ := Aside0.mk (Kd.R_elder' (RL HO_4) (Kd.R_base ho0) hb)
                have n1_ := Aside0.mk (Kd.R_elder' (RL HO256) (Kd.R_base ho0) hb)
                have n2_ := Aside0.mk (Kd.R_elder' (RL HO259) (Kd.R_base ho0) hb)
                have n3_ := Aside0.mk (Kd.R_lower (Kd.R_new' (Kd.R_new' (Kd.R_new' ho0 (Kd.R_lt (RL HO_4))) (Kd.R_lt (RL HO256))) (Kd.R_lt (RL HO259))) (below_size BL))
                have n4_ := Aside0.mk (below_step BL hb)
                clear HO_4
                clear HO256
                clear HO259
                clear HB
                have HO_4 := n0_
                have HO256 := n1_
                have HO259 := n2_
                have HO262 := n3_
                have HB := n4_
                clear n0_ n1_ n2_ n3_ n4_
                (try clear hb)
                (try clear hb2)
                (try clear hk)
                (try clear hi)
                (try clear ho0)
                obtain ⟨Ao28, co28, eo28⟩ := Kd.R_slice HO259.out
                (first | subst eo28 | (injection eo28 with f1_ f2_ f3_; have f4_ := f1_.symm; have f5_ := f3_.symm; clear f1_ f2_ f3_; subst f4_; subst f5_))
                obtain ⟨Ao29, co29, eo29⟩ := Kd.R_slice HO262.out
                (first | subst eo29 | (injection eo29 with f1_ f2_ f3_; have f4_ := f1_.symm; have f5_ := f3_.symm; clear f1_ f2_ f3_; subst f4_; subst f5_))
                refine hK.out _ _ trivial (fun hHeld => ?_)
                clear hK K
                refine norm_ (a' := ?_) ?_ ?_
                rotate_left
                · show Act.put _ (some 36) _ = _
                  simp only [Act.put, List.setIfInBounds_toArray, List.set_cons_zero, List.set_cons_succ, i64_w, i32_w]
                  rfl
                refine one_ (i := 9) (N := some 37) #[true, true, true, true, true, true, true, true, true, true, false] rfl rfl (one_of HT_.out (by kernel_rfl)) (by decide) (fun K hK => ?_)
                refine goes_ Tryd.func50 (by kernel_rfl) rfl #[.slice Ao28 t257.length co28, .slice Ao29 t260.length co29] (by rfl) rfl rfl (by (try simp only [List.map_toArray, List.map_cons, List.map_nil]); first | done | rfl | (exact congrArg (fun z_ => #[Value.int .u64 z_]) (u64_u8 _)) | (simp only [List.length_drop, List.length_take]; rfl)) ?_
                with_reducible refine (nat_sum.calls k2 _ _ t257 _ _ t260 t263 _ ?side1 ?side2 ?side3 ?side4 A20.out).mono ?_
                (case side1 => exact RR HO259)
                (case side2 => exact (Kd.R_reads' HO259.out).2.1)
                (case side3 => exact RR HO262)
                (case side4 => exact (Kd.R_reads' HO262.out).2.1)
                rintro e w30 ⟨v264, rfl, ho0, hb⟩
                refine ⟨_, rfl, ?_⟩
                have n0_ := Aside0.mk (Kd.R_elder' (RL HO_4) (Kd.R_base ho0) hb)
                have n1_ := Aside0.mk (Kd.R_elder' (RL HO256) (Kd.R_base ho0) hb)
                have n2_ := Aside0.mk (Kd.R_elder' (RL HO259) (Kd.R_base ho0) hb)
                have n3_ := Aside0.mk (Kd.R_elder' (RL HO262) (Kd.R_base ho0) hb)
                have n4_ := Aside0.mk (Kd.R_lower (Kd.R_new' (Kd.R_new' (Kd.R_new' (Kd.R_new' ho0 (Kd.R_lt (RL HO_4))) (Kd.R_lt (RL HO256))) (Kd.R_lt (RL HO259))) (Kd.R_lt (RL HO262))) (below_size BL))
                have n5_ := Aside0.mk (below_step BL hb)
                clear HO_4
                clear HO256
                clear HO259
                clear HO262
                clear HB
                have HO_4 := n0_
                have HO256 := n1_
                have HO259 := n2_
                have HO262 := n3_
                have HO265 := n4_
                have HB := n5_
                clear n0_ n1_ n2_ n3_ n4_ n5_
                (try clear hb)
                (try clear hb2)
                (try clear hk)
                (try clear hi)
                (try clear ho0)
                refine hK.out _ _ trivial (fun hHeld => ?_)
                clear hK K
                refine norm_ (a' := ?_) ?_ ?_
                rotate_left
                · show Act.put _ (some 37) _ = _
                  simp only [Act.put, List.setIfInBounds_toArray, List.set_cons_zero, List.set_cons_succ, i64_w, i32_w]
                  rfl
                refine pure_ (i := 10) (N := some 4) (v := ?_) (a' := ?_) #[true, true, true, true, true, true, true, true, true, true, true] rfl rfl (any_of HT_.out (by kernel_rfl)) (fun _ _ _ h => h) (Or.inl ⟨by rfl, ?_⟩) ?_ ?_
                rotate_left
                · intro w'
                  go_simp
                  with_reducible rfl
                rotate_left
                · simp only [Act.put, List.setIfInBounds_toArray, List.set_cons_zero, List.set_cons_succ, i64_w, i32_w]
                  rfl
                refine done_ (done_of HT_.out (by kernel_rfl)) ?_
                obtain ⟨Ao31, co31, eo31⟩ := Kd.R_slice HO265.out
                subst eo31
                try go_wp2
                go_ret2
                exact ⟨_, by first | rfl | (simp [errW_none, errW_some] <;> rfl) | (simp [*, errW_none, errW_some] <;> rfl), by first | exact Kd.R_nil _ _ _ _ _ | exact Kd.N_nil _ _ _ _ _ | exact Kd.V_nil _ _ _ _ _ | exact Kd.Q_nil _ _ _ _ _ | exact Kd.S_nil _ _ _ _ _, BL⟩
              · rw [if_neg c21] at H
                have c21b0 : decide (64 < (t263.length : Int)) = false := decide_eq_false c21
                have c21b1 : decide (64 < t263.length) = false := decide_eq_false (by omega)
                clear c21
                have H' := Aside0.mk H
                clear H
                try go_wp2
                have n0_ := Aside0.mk (Kd.R_drew HO_4.out)
                have n1_ := Aside0.mk (below_drew1 HB.out)
                clear HO_4
                clear HB
                have HO_4 := n0_
                have HB := n1_
                clear n0_ n1_
                have p18 : 0 ≤ (x25_2 : Int) := DA
                have q18 : x25_2 < (a0.size : Int) := DA
                have hx18 := bt_at a0 x25_2
                replace p18 := eq_true p18
                replace q18 := eq_true q18
                refine start_ (n := 11) (S := fun w' => True) (ds := []) #[false, false, false, false, false, false, false, false, false, false, false] (by kernel_rfl) rfl rfl trivial (fun hHeld => ?_); refine with_tabW nat_Read.tab7 nat_Read.bits7 (fun HT_ HW_ => ?_)
                generalize wr.drew = w32 at HO_4 HB hHeld ⊢
                refine pure_ (i := 0) (N := some 28) (v := ?_) (a' := ?_) #[true, false, false, false, false, false, false, false, false, false, false] rfl rfl (any_of HT_.out (by kernel_rfl)) (fun _ _ _ h => h) (Or.inl ⟨by rfl, ?_⟩) ?_ ?_
                rotate_left
                · intro w'
                  go_simp
                  with_reducible rfl
                rotate_left
                · simp only [Act.put, List.setIfInBounds_toArray, List.set_cons_zero, List.set_cons_succ, i64_w, i32_w]
                  rfl
                refine pure_ (i := 3) (N := some 31) (v := ?_) (a' := ?_) #[true, false, false, true, false, false, false, false, false, false, false] rfl rfl (any_of HT_.out (by kernel_rfl)) (fun _ _ _ h => h) (Or.inl ⟨by rfl, ?_⟩) ?_ ?_
                rotate_left
                · intro w'
                  go_simp
                  with_reducible rfl
                rotate_left
                · simp only [Act.put, List.setIfInBounds_toArray, List.set_cons_zero, List.set_cons_succ, i64_w, i32_w]
                  rfl
                refine pure_ (i := 4) (N := some 32) (v := ?_) (a' := ?_) #[true, false, false, true, true, false, false, false, false, false, false] rfl rfl (any_of HT_.out (by kernel_rfl)) (fun _ _ _ h => h) (Or.inl ⟨by rfl, ?_⟩) ?_ ?_
                rotate_left
                · intro w'
                  go_simp
                  with_reducible rfl
                rotate_left
                · simp only [Act.put, List.setIfInBounds_toArray, List.set_cons_zero, List.set_cons_succ, i64_w, i32_w]
                  rfl
                refine take_ (i := 5) (N := some 33) (v := ?_) (a' := ?_) #[true, false, false, true, true, true, false, false, false, false, false] rfl rfl (take_ofW HT_.out HW_.out (by kernel_rfl)) (fun _ _ _ h => h) (Or.inl ⟨by rfl, ?_⟩) hHeld ?_ ?_
                rotate_left
                · intro w' _
                  go_simp
                  with_reducible rfl
                rotate_left
                · simp only [Act.put, List.setIfInBounds_toArray, List.set_cons_zero, List.set_cons_succ, i64_w, i32_w]
                  rfl
                refine pure_ (i := 6) (N := some 34) (v := ?_) (a' := ?_) #[true, false, false, true, true, true, true, false, false, false, false] rfl rfl (any_of HT_.out (by kernel_rfl)) (fun _ _ _ h => h) (Or.inl ⟨by rfl, ?_⟩) ?_ ?_
                rotate_left
                · intro w'
                  go_simp
                  with_reducible rfl
                rotate_left
                · simp only [Act.put, List.setIfInBounds_toArray, List.set_cons_zero, List.set_cons_succ, i64_w, i32_w]
                  rfl
                refine pure_ (i := 7) (N := some 35) (v := ?_) (a' := ?_) #[true, false, false, true, true, true, true, true, false, false, false] rfl rfl (any_of HT_.out (by kernel_rfl)) (fun _ _ _ h => h) (Or.inl ⟨by rfl, ?_⟩) ?_ ?_
                rotate_left
                · intro w'
                  go_simp
                  with_reducible rfl
                rotate_left
                · simp only [Act.put, List.setIfInBounds_toArray, List.set_cons_zero, List.set_cons_succ, i64_w, i32_w]
                  rfl
                refine one_ (i := 1) (N := some 29) #[true, true, false, true, true, true, true, true, false, false, false] rfl rfl (one_of HT_.out (by kernel_rfl)) (by decide) (fun K hK => ?_)
                refine goes_ Tryd.func28 (by kernel_rfl) rfl #[.int .u64 10] (by rfl) rfl rfl (by (try simp only [List.map_toArray, List.map_cons, List.map_nil]); first | done | rfl | (exact congrArg (fun z_ => #[Value.int .u64 z_]) (u64_u8 _)) | (simp only [List.length_drop, List.length_take]; rfl)) ?_
                with_reducible refine (nat_Of.calls k2 10 t254 _ A14.out).mono ?_
                rintro e w33 ⟨v255, rfl, ho0, hb⟩
                refine ⟨_, rfl, ?_⟩
                have n0_ := Aside0.mk (Kd.R_elder' (RL HO_4) (Kd.R_base ho0) hb)
                have n1_ := Aside0.mk (Kd.R_lower (Kd.R_new' ho0 (Kd.R_lt (RL HO_4))) (below_size BL))
                have n2_ := Aside0.mk (below_step BL hb)
                clear HO_4
                clear HB
                have HO_4 := n0_
                have HO256 := n1_
                have HB := n2_
                clear n0_ n1_ n2_
                (try clear hb)
                (try clear hb2)
                (try clear hk)
                (try clear hi)
                (try clear ho0)
                obtain ⟨Ao34, co34, eo34⟩ := Kd.R_slice HO_4.out
                (first | subst eo34 | (injection eo34 with f1_ f2_ f3_; have f4_ := f1_.symm; have f5_ := f3_.symm; clear f1_ f2_ f3_; subst f4_; subst f5_))
                obtain ⟨Ao35, co35, eo35⟩ := Kd.R_slice HO256.out
                (first | subst eo35 | (injection eo35 with f1_ f2_ f3_; have f4_ := f1_.symm; have f5_ := f3_.symm; clear f1_ f2_ f3_; subst f4_; subst f5_))
                refine hK.out _ _ trivial (fun hHeld => ?_)
                clear hK K
                refine norm_ (a' := ?_) ?_ ?_
                rotate_left
                · show Act.put _ (some 29) _ = _
                  simp only [Act.put, List.setIfInBounds_toArray, List.set_cons_zero, List.set_cons_succ, i64_w, i32_w]
                  rfl
                refine one_ (i := 2) (N := some 30) #[true, true, true, true, true, true, true, true, false, false, false] rfl rfl (one_of HT_.out (by kernel_rfl)) (by decide) (fun K hK => ?_)
                refine goes_ Tryd.func51 (by kernel_rfl) rfl #[.slice Ao34 x4_2.length co34, .slice Ao35 t254.length co35] (by rfl) rfl rfl (by (try simp only [List.map_toArray, List.map_cons, List.map_nil]); first | done | rfl | (exact congrArg (fun z_ => #[Value.int .u64 z_]) (u64_u8 _)) | (simp only [List.length_drop, List.length_take]; rfl)) ?_
                with_reducible refine (nat_times.calls k2 _ _ x4_2 _ _ t254 t257 _ ?side1 ?side2 ?side3 ?side4 A15.out).mono ?_
                (case side1 => exact RR HO_4)
                (case side2 => exact (Kd.R_reads' HO_4.out).2.1)
                (case side3 => exact RR HO256)
                (case side4 => exact (Kd.R_reads' HO256.out).2.1)
                rintro e w36 ⟨v258, rfl, ho0, hb⟩
                refine ⟨_, rfl, ?_⟩
                have n0_ := Aside0.mk (Kd.R_elder' (RL HO_4) (Kd.R_base ho0) hb)
                have n1_ := Aside0.mk (Kd.R_elder' (RL HO256) (Kd.R_base ho0) hb)
                have n2_ := Aside0.mk (Kd.R_lower (Kd.R_new' (Kd.R_new' ho0 (Kd.R_lt (RL HO_4))) (Kd.R_lt (RL HO256))) (below_size BL))
                have n3_ := Aside0.mk (below_step BL hb)
                clear HO_4
                clear HO256
                clear HB
                have HO_4 := n0_
                have HO256 := n1_
                have HO259 := n2_
                have HB := n3_
                clear n0_ n1_ n2_ n3_
                (try clear hb)
                (try clear hb2)
                (try clear hk)
                (try clear hi)
                (try clear ho0)
                refine hK.out _ _ trivial (fun hHeld => ?_)
                clear hK K
                refine norm_ (a' := ?_) ?_ ?_
                rotate_left
                · show Act.put _ (some 30) _ = _
                  simp only [Act.put, List.setIfInBounds_toArray, List.set_cons_zero, List.set_cons_succ, i64_w, i32_w]
                  rfl
                refine one_ (i := 8) (N := some 36) #[true, true, true, true, true, true, true, true, true, false, false] rfl rfl (one_of HT_.out (by kernel_rfl)) (by decide) (fun K hK => ?_)
                refine goes_ Tryd.func28 (by kernel_rfl) rfl #[.int .u64 (((bt a0 x25_2) - 48) % 256)] (by rfl) rfl rfl (by (try simp only [List.map_toArray, List.map_cons, List.map_nil]); first | done | rfl | (exact congrArg (fun z_ => #[Value.int .u64 z_]) (u64_u8 _)) | (simp only [List.length_drop, List.length_take]; rfl)) ?_
                with_reducible refine (nat_Of.calls k2 (((bt a0 x25_2) - 48) % 256) t260 _ A19.out).mono ?_
                rintro e w37 ⟨v261, rfl, ho0, hb⟩
                refine ⟨_, rfl, ?_⟩
                have n0_ := Aside0.mk (Kd.R_elder' (RL HO_4) (Kd.R_base ho0) hb)
                have n1_ := Aside0.mk (Kd.R_elder' (RL HO256) (Kd.R_base ho0) hb)
                have n2_ := Aside0.mk (Kd.R_elder' (RL HO259) (Kd.R_base ho0) hb)
                have n3_ := Aside0.mk (Kd.R_lower (Kd.R_new' (Kd.R_new' (Kd.R_new' ho0 (Kd.R_lt (RL HO_4))) (Kd.R_lt (RL HO256))) (Kd.R_lt (RL HO259))) (below_size BL))
                have n4_ := Aside0.mk (below_step BL hb)
                clear HO_4
                clear HO256
                clear HO259
                clear HB
                have HO_4 := n0_
                have HO256 := n1_
                have HO259 := n2_
                have HO262 := n3_
                have HB := n4_
                clear n0_ n1_ n2_ n3_ n4_
                (try clear hb)
                (try clear hb2)
                (try clear hk)
                (try clear hi)
                (try clear ho0)
                obtain ⟨Ao38, co38, eo38⟩ := Kd.R_slice HO259.out
                (first | subst eo38 | (injection eo38 with f1_ f2_ f3_; have f4_ := f1_.symm; have f5_ := f3_.symm; clear f1_ f2_ f3_; subst f4_; subst f5_))
                obtain ⟨Ao39, co39, eo39⟩ := Kd.R_slice HO262.out
                (first | subst eo39 | (injection eo39 with f1_ f2_ f3_; have f4_ := f1_.symm; have f5_ := f3_.symm; clear f1_ f2_ f3_; subst f4_; subst f5_))
                refine hK.out _ _ trivial (fun hHeld => ?_)
                clear hK K
                refine norm_ (a' := ?_) ?_ ?_
                rotate_left
                · show Act.put _ (some 36) _ = _
                  simp only [Act.put, List.setIfInBounds_toArray, List.set_cons_zero, List.set_cons_succ, i64_w, i32_w]
                  rfl
                refine one_ (i := 9) (N := some 37) #[true, true, true, true, true, true, true, true, true, true, false] rfl rfl (one_of HT_.out (by kernel_rfl)) (by decide) (fun K hK => ?_)
                refine goes_ Tryd.func50 (by kernel_rfl) rfl #[.slice Ao38 t257.length co38, .slice Ao39 t260.length co39] (by rfl) rfl rfl (by (try simp only [List.map_toArray, List.map_cons, List.map_nil]); first | done | rfl | (exact congrArg (fun z_ => #[Value.int .u64 z_]) (u64_u8 _)) | (simp only [List.length_drop, List.length_take]; rfl)) ?_
                with_reducible refine (nat_sum.calls k2 _ _ t257 _ _ t260 t263 _ ?side1 ?side2 ?side3 ?side4 A20.out).mono ?_
                (case side1 => exact RR HO259)
                (case side2 => exact (Kd.R_reads' HO259.out).2.1)
                (case side3 => exact RR HO262)
                (case side4 => exact (Kd.R_reads' HO262.out).2.1)
                rintro e w40 ⟨v264, rfl, ho0, hb⟩
                refine ⟨_, rfl, ?_⟩
                have n0_ := Aside0.mk (Kd.R_elder' (RL HO_4) (Kd.R_base ho0) hb)
                have n1_ := Aside0.mk (Kd.R_elder' (RL HO256) (Kd.R_base ho0) hb)
                have n2_ := Aside0.mk (Kd.R_elder' (RL HO259) (Kd.R_base ho0) hb)
                have n3_ := Aside0.mk (Kd.R_elder' (RL HO262) (Kd.R_base ho0) hb)
                have n4_ := Aside0.mk (Kd.R_lower (Kd.R_new' (Kd.R_new' (Kd.R_new' (Kd.R_new' ho0 (Kd.R_lt (RL HO_4))) (Kd.R_lt (RL HO256))) (Kd.R_lt (RL HO259))) (Kd.R_lt (RL HO262))) (below_size BL))
                have n5_ := Aside0.mk (below_step BL hb)
                clear HO_4
                clear HO256
                clear HO259
                clear HO262
                clear HB
                have HO_4 := n0_
                have HO256 := n1_
                have HO259 := n2_
                have HO262 := n3_
                have HO265 := n4_
                have HB := n5_
                clear n0_ n1_ n2_ n3_ n4_ n5_
                (try clear hb)
                (try clear hb2)
                (try clear hk)
                (try clear hi)
                (try clear ho0)
                refine hK.out _ _ trivial (fun hHeld => ?_)
                clear hK K
                refine norm_ (a' := ?_) ?_ ?_
                rotate_left
                · show Act.put _ (some 37) _ = _
                  simp only [Act.put, List.setIfInBounds_toArray, List.set_cons_zero, List.set_cons_succ, i64_w, i32_w]
                  rfl
                refine pure_ (i := 10) (N := some 4) (v := ?_) (a' := ?_) #[true, true, true, true, true, true, true, true, true, true, true] rfl rfl (any_of HT_.out (by kernel_rfl)) (fun _ _ _ h => h) (Or.inl ⟨by rfl, ?_⟩) ?_ ?_
                rotate_left
                · intro w'
                  go_simp
                  with_reducible rfl
                rotate_left
                · simp only [Act.put, List.setIfInBounds_toArray, List.set_cons_zero, List.set_cons_succ, i64_w, i32_w]
                  rfl
                refine done_ (done_of HT_.out (by kernel_rfl)) ?_
                obtain ⟨Ao41, co41, eo41⟩ := Kd.R_slice HO265.out
                subst eo41
                try go_wp2
                go_roundg k2
                case measure => have := HJ1.out; have := HK2.out; omega
                case rel => exact ⟨(t263), (wrap64 (x25_2 + 1)), (by first | rfl | (simp; done) | (simp [*]; done) | (simp; exact isEmpty_bne _)), H', ⟨by have := HJ1.out; have := HK2.out; omega⟩, ⟨by (with_reducible repeat (first | apply Kd.R_alloc | apply Kd.R_drewN | apply Kd.R_drew)); exact Kd.R_mono HO265.out (fun _ hk => trivial)⟩, ⟨BL⟩⟩
            · rw [if_neg c13] at H
              have c13b0 : decide (x25_2 < (a0.size : Int)) = false := decide_eq_false c13
              clear c13
              simp only [Option.some.injEq, Prod.mk.injEq] at H
              obtain ⟨rfl, rfl⟩ := H
              go_wp2
              go_ret2
              exact ⟨_, by first | rfl | (simp [errW_none, errW_some] <;> rfl) | (simp [*, errW_none, errW_some] <;> rfl), by (with_reducible repeat (first | apply Kd.R_alloc | apply Kd.R_drewN | apply Kd.R_drew)); exact HO_4.out, BL⟩

/-! ### nat_digits: function 53 -/
theorem digs_cells (w : World) (T : Nat) (xs : List Int) (i : Nat) (hi : i < xs.length) : (w.alloc (.cells (xs.map (Value.int .u8)).toArray T)).cell? ⟨w.heap.size, 0 + i, none⟩ = some (.int .u8 (xs.getD i 0)) := by
  rw [World.cell?_alloc_new]
  simp [List.getD, hi]
theorem digs_conv (a0 : Int) (w : World) : (convert 60 9 (.slice (some ⟨w.heap.size, 0, none⟩) 9 9)).run Tryd.prog (w.alloc (.cells #[Value.int IntKind.u8 (48 + a0 / 10 / 10 / 10 / 10 / 10 / 10 / 10 / 10 % 10), Value.int IntKind.u8 (48 + a0 / 10 / 10 / 10 / 10 / 10 / 10 / 10 % 10), Value.int IntKind.u8 (48 + a0 / 10 / 10 / 10 / 10 / 10 / 10 % 10), Value.int IntKind.u8 (48 + a0 / 10 / 10 / 10 / 10 / 10 % 10), Value.int IntKind.u8 (48 + a0 / 10 / 10 / 10 / 10 % 10), Value.int IntKind.u8 (48 + a0 / 10 / 10 / 10 % 10), Value.int IntKind.u8 (48 + a0 / 10 / 10 % 10), Value.int IntKind.u8 (48 + a0 / 10 % 10), Value.int IntKind.u8 (48 + a0 % 10)] 84)) = .ok (.string (strOfNums (digs a0))) (w.alloc (.cells ((digs a0).map (Value.int .u8)).toArray 84)) :=
  run_convert_bytes_arg _ 60 5 Tryd.underlying60 Tryd.underlying5 w.heap.size 0 9 9 (digs a0) rfl (fun i hi => digs_cells w 84 (digs a0) i hi) 9 Tryd.underlying9
set_option maxHeartbeats 1000000 in
set_option maxRecDepth 100000 in
theorem nat_digits.calls (a0 : Int) (r : ByteArray) (w : World) (h : nat_digits.f a0 = some r) :
    Calls Tryd.prog 53 #[.int .u32 a0] w fun e w' => e = .returned (.string r) ∧ Below w.heap.size w w' := by
  unfold nat_digits.f at h
  by_cases hb : 0 ≤ a0 ∧ a0 < 4294967296
  · rw [if_pos hb] at h
    obtain ⟨h0, h1⟩ := hb
    have hr := Aside0.mk (Option.some.inj h)
    clear h
    have hcv := Aside0.mk (digs_conv a0 w)
    go_enter Tryd.func53, Tryd.ntmps53
    go_wp2
    refine wp_loop_rounds 10 ?_
    repeat any_goals (rw [rounds_succ]; go_wp2)
    rw [hcv.out, hr.out]
    go_wp2
    go_ret
    exact ⟨rfl, (Below.refl _ _).alloc (Nat.le_refl _) _⟩
  · rw [if_neg hb] at h
    cases h


/-! ### strings_TrimLeft: function 54 -/
theorem strings_TrimLeft.calls (a0 a1 r : ByteArray) (w : World) (h : strings_TrimLeft.f a0 a1 = some r) :
    Calls Tryd.prog 54 #[.string a0, .string a1] w fun e w' => e = .returned (.string r) ∧ Below w.heap.size w w' := by
  unfold strings_TrimLeft.f at h
  by_cases hb : a0.size ≤ 9223372036854775807 ∧ a1.size < 4294967281 ∧ a1.data.toList.all (fun b => decide (b.toNat < 128)) = true
  · rw [if_pos hb] at h
    obtain rfl := Option.some.inj h
    exact Any.strings_TrimLeft_laid Tryd.lays161 (by kernel_rfl) a0 a1 w hb.2.1 (ascii_of_all hb.2.2)
  · rw [if_neg hb] at h
    cases h


/-! ### nat_Text: function 27 -/
set_option maxHeartbeats 8000000 in
set_option maxRecDepth 100000 in
theorem nat_Text.calls (k : Nat) (P0_ : Nat → Prop) (A0 : Option Addr) (c0 : Nat) (l0 : List Int) (r : ByteArray) (w : World) (hs0 : Kd.V (Kd.int .u32) 36 w w.heap.size (fun k_ => P0_ k_) (.slice A0 l0.length c0) l0) (h : nat_Text.f k l0 = some r) :
    Calls Tryd.prog 27 #[.slice A0 l0.length c0] w fun e w' => e = .returned (.string r) ∧ Below w.heap.size w w' := by
  have HO0 := Aside0.mk (show Kd.V (Kd.int .u32) 36 w w.heap.size (fun k_ => (P0_ k_ ∨ w.heap.size ≤ k_)) (.slice A0 l0.length c0) l0 from Kd.V_mono hs0 (fun k_ hk => .inl hk))
  have HB := Aside0.mk (Below.refl w.heap.size w)
  have H : ((nat_Right.f l0).bind fun t266 => (if t266 = true then (nat_Text.l0 k l0 (⟨#[]⟩ : ByteArray)) else (some (⟨#[]⟩ : ByteArray)))) = some r := h
  clear h
  obtain ⟨t266, A2, H⟩ := bind_p H
  by_cases c3 : t266 = true
  · subst c3
    have H1 : (nat_Text.l0 k l0 (⟨#[]⟩ : ByteArray)) = some r := by rw [if_pos rfl] at H; exact H
    clear H
    have H := H1
    clear H1
    have H' := Aside0.mk H
    clear H
    go_enter Tryd.func27, Tryd.ntmps27
    go_wp2_with (first | ((with_reducible refine gate_callee (f := 20) rfl ?_); refine goesL_ (some 7) rfl rfl Tryd.func20 (by kernel_rfl) rfl #[.slice A0 l0.length c0] rfl EQ ?_; (with_reducible refine (nat_Right.calls _ _ l0 true _ ?side1 ?side2 A2.out).mono ?_); (case side1 => repeat (first | exact (Kd.V_reads' HO0.out).2.2 | (with_reducible refine Kd.C_alloc ?_ _) | (with_reducible refine Kd.C_drewN ?_ _) | (with_reducible refine Kd.C_drew ?_))); (case side2 => exact (Kd.V_reads' HO0.out).2.1); rintro e w' ⟨rfl, ⟨nd, rfl⟩⟩; refine ⟨_, rfl, ?_⟩))
    go_loopg [0, 3] k (fun kq v0 v3 w' => ∃ (x0_1 : List Int) (x3_1 : ByteArray), v3 = .string x3_1 ∧ Aside0 (nat_Text.l0 kq x0_1 x3_1 = some r) ∧ Aside0 (kq ≤ k) ∧ Aside0 (Kd.V (Kd.int .u32) 36 w' w.heap.size (fun k_ => (P0_ k_ ∨ w.heap.size ≤ k_)) v0 x0_1) ∧ Aside0 (Below w.heap.size w w'))
    case atStart => exact ⟨(l0), ((⟨#[]⟩ : ByteArray)), (by first | rfl | (simp; done) | (simp [*]; done) | (simp; exact isEmpty_bne _)), H', ⟨Nat.le_refl _⟩, ⟨by (with_reducible repeat (first | apply Kd.V_alloc | apply Kd.V_drewN | apply Kd.V_drew)); exact HO0.out⟩, ⟨BL⟩⟩
    case round =>
      clear H'
      try clear c2
      try clear p2
      try clear c3
      obtain ⟨x0_1, x3_1, rfl, HA, HK1, HO_0, HB⟩ := hrel
      cases gk with
      | zero => exact absurd HA.out (by simp [nat_Text.l0])
      | succ k1 =>
        have H := HA.out
        clear HA
        simp only [nat_Text.l0] at H
        by_cases c4 : (x0_1.length : Int) > 0
        · rw [if_pos c4] at H
          have c4b0 : decide (0 < (x0_1.length : Int)) = true := decide_eq_true c4
          have c4b1 : decide (0 < x0_1.length) = true := decide_eq_true (by omega)
          clear c4
          obtain ⟨⟨t267, t268⟩, A5, H⟩ := bind_p H
          dsimp only at H
          obtain ⟨t271, A6, H⟩ := bind_p H
          obtain ⟨c7, H⟩ := ite_p H
          have c7b0 := eq_true c7
          have c7b1 : decide (t271.size + x3_1.size ≤ 9223372036854775807) = true := decide_eq_true c7
          try have c7b2 : (9223372036854775807 < t271.size + x3_1.size) = False := eq_false (Nat.not_lt.2 c7)
          have H' := Aside0.mk H
          clear H
          obtain ⟨Ao8, co8, eo8⟩ := Kd.V_slice HO_0.out
          subst eo8
          go_wp2_with (first | ((with_reducible refine gate_callee (f := 52) rfl ?_); refine goesL_ (some 14) rfl rfl Tryd.func52 (by kernel_rfl) rfl #[.slice Ao8 x0_1.length co8, .int .u32 1000000000] rfl EQ ?_; (with_reducible refine (nat_short.calls k1 _ _ x0_1 1000000000 t267 t268 _ ?side1 ?side2 A5.out).mono ?_); (case side1 => repeat (first | exact (Kd.V_reads' HO_0.out).2.2 | (with_reducible refine Kd.C_alloc ?_ _) | (with_reducible refine Kd.C_drewN ?_ _) | (with_reducible refine Kd.C_drew ?_))); (case side2 => exact (Kd.V_reads' HO_0.out).2.1); rintro e w9 ⟨v269, rfl, ho0, hb⟩; refine ⟨_, rfl, ?_⟩; have n0_ := Aside0.mk (Kd.V_elder' (by (with_reducible repeat (first | apply Kd.V_alloc | apply Kd.V_drewN | apply Kd.V_drew)); exact HO_0.out) (Kd.R_base ho0) hb); have n1_ := Aside0.mk (Kd.R_lower (Kd.R_newM (M := fun k_ => (w.heap.size ≤ k_)) ho0 (below_size BL) (fun k_ h_ => h_)) (below_size BL)); have n2_ := Aside0.mk (below_step BL hb); clear HO_0; clear HB; have HO_0 := n0_; have HO270 := n1_; have HB := n2_; clear n0_ n1_ n2_; (try clear hb); (try clear hb2); (try clear hk); (try clear hi); (try clear ho0)) | ((with_reducible refine gate_callee (f := 53) rfl ?_); refine goesL_ (some 18) rfl rfl Tryd.func53 (by kernel_rfl) rfl #[.int .u32 t268] rfl EQ ?_; (with_reducible refine (nat_digits.calls t268 t271 _ A6.out).mono ?_); rintro e w10 ⟨rfl, hb⟩; refine ⟨_, rfl, ?_⟩; have n0_ := Aside0.mk (Kd.V_below (by (with_reducible repeat (first | apply Kd.V_alloc | apply Kd.V_drewN | apply Kd.V_drew)); exact HO_0.out) hb); have n1_ := Aside0.mk (Kd.R_below (RL HO270) hb); have n2_ := Aside0.mk (below_step BL hb); clear HO_0; clear HO270; clear HB; have HO_0 := n0_; have HO270 := n1_; have HB := n2_; clear n0_ n1_ n2_; (try clear hb); (try clear hb2); (try clear hk); (try clear hi)))
          go_roundg k1
          case measure => have := HK1.out; omega
          case rel => exact ⟨(t267), (t271 ++ x3_1), (by first | rfl | (simp; done) | (simp [*]; done) | (simp; exact isEmpty_bne _)), H', ⟨by have := HK1.out; omega⟩, ⟨Kd.V_mono (Kd.R_V (by (with_reducible repeat (first | apply Kd.R_alloc | apply Kd.R_drewN | apply Kd.R_drew)); exact Kd.R_mono HO270.out (fun _ hk => hk.1))) (fun k_ hk => by first | exact ⟨(.inr (hk.1)), hk.2⟩ | exact (.inr (hk)))⟩, ⟨BL⟩⟩
        · rw [if_neg c4] at H
          have c4b0 : decide (0 < (x0_1.length : Int)) = false := decide_eq_false c4
          have c4b1 : decide (0 < x0_1.length) = false := decide_eq_false (by omega)
          clear c4
          obtain ⟨t272, A11, H⟩ := bind_p H
          by_cases c12 : t272.toList = ([] : List UInt8)
          · rw [if_pos c12] at H
            have c12b0 : (t272.toList == ([] : List UInt8)) = true := beq_iff_eq.mpr c12
            have c12b1 : (t272.toList != ([] : List UInt8)) = false := bne_eq_false_iff_eq.mpr c12
            clear c12
            obtain rfl := Option.some.inj H
            obtain ⟨Ao13, co13, eo13⟩ := Kd.V_slice HO_0.out
            subst eo13
            go_wp2_with (first | ((with_reducible refine gate_callee (f := 54) rfl ?_); refine goesL_ (some 23) rfl rfl Tryd.func54 (by kernel_rfl) rfl #[.string x3_1, .string (⟨#[48]⟩ : ByteArray)] rfl EQ ?_; (with_reducible refine (strings_TrimLeft.calls x3_1 (⟨#[48]⟩ : ByteArray) t272 _ A11.out).mono ?_); rintro e w14 ⟨rfl, hb⟩; refine ⟨_, rfl, ?_⟩; have n0_ := Aside0.mk (Kd.V_below (by (with_reducible repeat (first | apply Kd.V_alloc | apply Kd.V_drewN | apply Kd.V_drew)); exact HO_0.out) hb); have n1_ := Aside0.mk (below_step BL hb); clear HO_0; clear HB; have HO_0 := n0_; have HB := n1_; clear n0_ n1_; (try clear hb); (try clear hb2); (try clear hk); (try clear hi)))
            go_ret
            exact ⟨by first | rfl | (simp [errW_none, errW_some] <;> rfl) | (simp [*, errW_none, errW_some] <;> rfl), BL⟩
          · rw [if_neg c12] at H
            have c12b0 : (t272.toList == ([] : List UInt8)) = false := beq_eq_false_iff_ne.mpr c12
            have c12b1 : (t272.toList != ([] : List UInt8)) = true := bne_iff_ne.mpr c12
            obtain rfl := Option.some.inj H
            obtain ⟨Ao15, co15, eo15⟩ := Kd.V_slice HO_0.out
            subst eo15
            go_wp2_with (first | ((with_reducible refine gate_callee (f := 54) rfl ?_); refine goesL_ (some 23) rfl rfl Tryd.func54 (by kernel_rfl) rfl #[.string x3_1, .string (⟨#[48]⟩ : ByteArray)] rfl EQ ?_; (with_reducible refine (strings_TrimLeft.calls x3_1 (⟨#[48]⟩ : ByteArray) t272 _ A11.out).mono ?_); rintro e w16 ⟨rfl, hb⟩; refine ⟨_, rfl, ?_⟩; have n0_ := Aside0.mk (Kd.V_below (by (with_reducible repeat (first | apply Kd.V_alloc | apply Kd.V_drewN | apply Kd.V_drew)); exact HO_0.out) hb); have n1_ := Aside0.mk (below_step BL hb); clear HO_0; clear HB; have HO_0 := n0_; have HB := n1_; clear n0_ n1_; (try clear hb); (try clear hb2); (try clear hk); (try clear hi)))
            go_ret
            exact ⟨by first | rfl | (simp [errW_none, errW_some] <;> rfl) | (simp [*, errW_none, errW_some] <;> rfl), BL⟩
  · replace c3 := Bool.eq_false_iff.mpr c3
    subst c3
    have H1 : (some (⟨#[]⟩ : ByteArray)) = some r := by rw [if_neg (show ¬ (false = true) by decide)] at H; exact H
    clear H
    have H := H1
    clear H1
    obtain rfl := Option.some.inj H
    go_enter Tryd.func27, Tryd.ntmps27
    go_wp2_with (first | ((with_reducible refine gate_callee (f := 20) rfl ?_); refine goesL_ (some 7) rfl rfl Tryd.func20 (by kernel_rfl) rfl #[.slice A0 l0.length c0] rfl EQ ?_; (with_reducible refine (nat_Right.calls _ _ l0 false _ ?side1 ?side2 A2.out).mono ?_); (case side1 => repeat (first | exact (Kd.V_reads' HO0.out).2.2 | (with_reducible refine Kd.C_alloc ?_ _) | (with_reducible refine Kd.C_drewN ?_ _) | (with_reducible refine Kd.C_drew ?_))); (case side2 => exact (Kd.V_reads' HO0.out).2.1); rintro e w' ⟨rfl, ⟨nd, rfl⟩⟩; refine ⟨_, rfl, ?_⟩))
    go_ret
    exact ⟨by first | rfl | (simp [errW_none, errW_some] <;> rfl) | (simp [*, errW_none, errW_some] <;> rfl), BL⟩

/-! ### nat_kept: function 56 -/
set_option maxHeartbeats 8000000 in
set_option maxRecDepth 100000 in
theorem nat_kept.calls (P0_ : Nat → Prop) (u9000_ : Value) (l0 : List Int) (r1 : List Int) (r2 : Int) (w0 w : World) (hB : Below w0.heap.size w0 w) (ho0 : Kd.R (Kd.int .u32) 36 w w0.heap.size P0_ u9000_ l0) (h : nat_kept.f l0 = some (r1, r2)) :
    Calls Tryd.prog 56 #[u9000_] w fun e w' => ∃ v0_ : Value, e = .returned (.tuple #[v0_, .int .i64 r2]) ∧ Kd.R (Kd.int .u32) 36 w' w0.heap.size (fun k_ => (P0_ k_ ∨ w.heap.size ≤ k_)) v0_ r1 ∧ Below w0.heap.size w0 w' ∧ Kept w w' (fun k_ => P0_ k_) := by
  have HO0 := Aside0.mk (show Kd.R (Kd.int .u32) 36 w w0.heap.size (fun k_ => (P0_ k_ ∨ w.heap.size ≤ k_)) u9000_ l0 from Kd.R_mono ho0 (fun k_ hk => (.inl hk)))
  have HK := Aside0.mk (Kept.refl w (fun k_ => P0_ k_))
  have HW0 := Aside0.mk hB.size
  have HB := Aside0.mk hB
  clear hB
  have H : (if (l0.length : Int) > 64 then (some (([] : List Int), 6)) else (some (l0, 0))) = some (r1, r2) := h
  clear h
  by_cases c2 : (l0.length : Int) > 64
  · rw [if_pos c2] at H
    have c2b0 : decide (64 < (l0.length : Int)) = true := decide_eq_true c2
    have c2b1 : decide (64 < l0.length) = true := decide_eq_true (by omega)
    clear c2
    simp only [Option.some.injEq, Prod.mk.injEq] at H
    obtain ⟨rfl, rfl⟩ := H
    obtain ⟨Ao3, co3, eo3⟩ := Kd.R_slice HO0.out
    subst eo3
    go_enter Tryd.func56, Tryd.ntmps56
    go_wp2
    go_ret2
    exact ⟨_, by first | rfl | (simp [errW_none, errW_some] <;> rfl) | (simp [*, errW_none, errW_some] <;> rfl), by first | exact Kd.R_nil _ _ _ _ _ | exact Kd.N_nil _ _ _ _ _ | exact Kd.V_nil _ _ _ _ _ | exact Kd.Q_nil _ _ _ _ _ | exact Kd.S_nil _ _ _ _ _, by repeat (first | (with_reducible first | exact HB.out | apply below_alloc | apply pw_below_drewN | apply below_drew1) | exact HB.out), by repeat (first | (with_reducible first | exact HK.out | apply Kept.alloc | apply Kept.drewN | apply Kept.drew) | exact HK.out)⟩
  · rw [if_neg c2] at H
    have c2b0 : decide (64 < (l0.length : Int)) = false := decide_eq_false c2
    have c2b1 : decide (64 < l0.length) = false := decide_eq_false (by omega)
    clear c2
    simp only [Option.some.injEq, Prod.mk.injEq] at H
    obtain ⟨rfl, rfl⟩ := H
    obtain ⟨Ao4, co4, eo4⟩ := Kd.R_slice HO0.out
    subst eo4
    go_enter Tryd.func56, Tryd.ntmps56
    go_wp2
    go_ret2
    exact ⟨_, by first | rfl | (simp [errW_none, errW_some] <;> rfl) | (simp [*, errW_none, errW_some] <;> rfl), by (with_reducible repeat (first | apply Kd.R_alloc | apply Kd.R_drewN | apply Kd.R_drew)); exact HO0.out, by repeat (first | (with_reducible first | exact HB.out | apply below_alloc | apply pw_below_drewN | apply below_drew1) | exact HB.out), by repeat (first | (with_reducible first | exact HK.out | apply Kept.alloc | apply Kept.drewN | apply Kept.drew) | exact HK.out)⟩

/-! ### nat_Mul: function 31 -/
set_option maxHeartbeats 8000000 in
set_option maxRecDepth 100000 in
theorem nat_Mul.calls (k : Nat) (A0 : Option Addr) (c0 : Nat) (l0 : List Int) (A1 : Option Addr) (c1 : Nat) (l1 : List Int) (r1 : List Int) (r2 : Int) (w : World) (hr0 : Kd.C (Kd.int .u32) w A0 l0.length l0) (hc0 : l0.length ≤ c0) (hr1 : Kd.C (Kd.int .u32) w A1 l1.length l1) (hc1 : l1.length ≤ c1) (h : nat_Mul.f k l0 l1 = some (r1, r2)) :
    Calls Tryd.prog 31 #[.slice A0 l0.length c0, .slice A1 l1.length c1] w fun e w' => ∃ v0_ : Value, e = .returned (.tuple #[v0_, .int .i64 r2]) ∧ Kd.R (Kd.int .u32) 36 w' w.heap.size (fun _ => True) v0_ r1 ∧ Below w.heap.size w w' := by
  have HR0 := Aside0.mk hr0
  have HC0 := Aside0.mk hc0
  clear hr0 hc0
  have HR1 := Aside0.mk hr1
  have HC1 := Aside0.mk hc1
  clear hr1 hc1
  have HB := Aside0.mk (Below.refl w.heap.size w)
  have H : ((nat_Right.f l0).bind fun t273 => (if t273 = true then ((nat_Right.f l1).bind fun t274 => (nat_Mul.j0 k l0 l1 (!t274))) else (nat_Mul.j0 k l0 l1 true))) = some (r1, r2) := h
  clear h
  have HC3 := Aside0.mk H
  clear H
  go_enter Tryd.func31, Tryd.ntmps31
  go_upto_region 1 with (fail)
  go_cut [13] (fun v13 wc => ∃ (kq : Nat) (x13_2 : Bool), v13 = .bool x13_2 ∧ Aside0 (nat_Mul.j0 kq l0 l1 x13_2 = some (r1, r2)) ∧ Aside0 (kq ≤ k) ∧ Aside0 (Below w.heap.size w wc))
  case first =>
    have H := HC3.out
    clear HC3
    obtain ⟨t273, A4, H⟩ := bind_p H
    by_cases c5 : t273 = true
    · subst c5
      have H1 : ((nat_Right.f l1).bind fun t274 => (nat_Mul.j0 k l0 l1 (!t274))) = some (r1, r2) := by rw [if_pos rfl] at H; exact H
      clear H
      have H := H1
      clear H1
      obtain ⟨t274, A6, H⟩ := bind_p H
      have H' := Aside0.mk H
      clear H
      go_wp2_with (first | ((with_reducible refine gate_callee (f := 20) rfl ?_); refine goesL_ (some 7) rfl rfl Tryd.func20 (by kernel_rfl) rfl #[.slice A0 l0.length c0] rfl EQ ?_; (with_reducible refine (nat_Right.calls _ _ l0 true _ ?side1 ?side2 A4.out).mono ?_); (case side1 => exact CB HR0); (case side2 => exact HC0.out); rintro e w' ⟨rfl, ⟨nd, rfl⟩⟩; refine ⟨_, rfl, ?_⟩) | (go_at_call 20; (with_reducible refine (nat_Right.calls _ _ l1 t274 _ ?side1 ?side2 A6.out).mono ?_); (case side1 => repeat (first | exact (Kd.C_below HR1.out BL) | (with_reducible refine Kd.C_alloc ?_ _) | (with_reducible refine Kd.C_drewN ?_ _) | (with_reducible refine Kd.C_drew ?_))); (case side2 => exact HC1.out); rintro e w' ⟨rfl, ⟨nd, rfl⟩⟩))
      go_meet
      case rel => exact ⟨_, (!t274), (by first | rfl | (simp; done) | (simp [*]; done) | (simp; exact isEmpty_bne _)), H', ⟨by first | omega | exact Nat.le_refl _⟩, ⟨BL⟩⟩
    · replace c5 := Bool.eq_false_iff.mpr c5
      subst c5
      have H1 : (nat_Mul.j0 k l0 l1 true) = some (r1, r2) := by rw [if_neg (show ¬ (false = true) by decide)] at H; exact H
      clear H
      have H := H1
      clear H1
      have H' := Aside0.mk H
      clear H
      go_wp2_with (first | ((with_reducible refine gate_callee (f := 20) rfl ?_); refine goesL_ (some 7) rfl rfl Tryd.func20 (by kernel_rfl) rfl #[.slice A0 l0.length c0] rfl EQ ?_; (with_reducible refine (nat_Right.calls _ _ l0 false _ ?side1 ?side2 A4.out).mono ?_); (case side1 => exact CB HR0); (case side2 => exact HC0.out); rintro e w' ⟨rfl, ⟨nd, rfl⟩⟩; refine ⟨_, rfl, ?_⟩))
      go_meet
      case rel => exact ⟨_, (true), (by first | rfl | (simp; done) | (simp [*]; done) | (simp; exact isEmpty_bne _)), H', ⟨by first | omega | exact Nat.le_refl _⟩, ⟨BL⟩⟩
  case rest =>
    clear HC3
    try clear c1
    try clear c2
    try clear p2
    try clear c3
    try clear c5
    obtain ⟨kq, x13_2, rfl, HA, HJ2, HB⟩ := hcut
    cases kq with
    | zero => exact absurd HA.out (by simp [nat_Mul.j0])
    | succ kj2 =>
      have H := HA.out
      clear HA
      simp only [nat_Mul.j0] at H
      by_cases c7 : x13_2 = true
      · subst c7
        have H1 : (some (([] : List Int), 1)) = some (r1, r2) := by rw [if_pos rfl] at H; exact H
        clear H
        have H := H1
        clear H1
        simp only [Option.some.injEq, Prod.mk.injEq] at H
        obtain ⟨rfl, rfl⟩ := H
        go_wp2
        go_ret2
        exact ⟨_, by first | rfl | (simp [errW_none, errW_some] <;> rfl) | (simp [*, errW_none, errW_some] <;> rfl), by first | exact Kd.R_nil _ _ _ _ _ | exact Kd.N_nil _ _ _ _ _ | exact Kd.V_nil _ _ _ _ _ | exact Kd.Q_nil _ _ _ _ _ | exact Kd.S_nil _ _ _ _ _, BL⟩
      · replace c7 := Bool.eq_false_iff.mpr c7
        subst c7
        have H1 : ((nat_times.f kj2 l0 l1).bind fun t275 => ((nat_kept.f t275).bind fun bt278 => (some (bt278.1, bt278.2)))) = some (r1, r2) := by rw [if_neg (show ¬ (false = true) by decide)] at H; exact H
        clear H
        have H := H1
        clear H1
        obtain ⟨t275, A8, H⟩ := bind_p H
        obtain ⟨⟨t278, t281⟩, A9, H⟩ := bind_p H
        dsimp only at H
        simp only [Option.some.injEq, Prod.mk.injEq] at H
        obtain ⟨rfl, rfl⟩ := H
        go_wp2_with (first | ((with_reducible refine gate_callee (f := 51) rfl ?_); refine goesL_ (some 16) rfl rfl Tryd.func51 (by kernel_rfl) rfl #[.slice A0 l0.length c0, .slice A1 l1.length c1] rfl EQ ?_; (with_reducible refine (nat_times.calls kj2 _ _ l0 _ _ l1 t275 _ ?side1 ?side2 ?side3 ?side4 A8.out).mono ?_); (case side1 => exact CB HR0); (case side2 => exact HC0.out); (case side3 => exact CB HR1); (case side4 => exact HC1.out); rintro e w10 ⟨v276, rfl, ho0, hb⟩; refine ⟨_, rfl, ?_⟩; have n0_ := Aside0.mk (Kd.R_lower ho0 (below_size BL)); have n1_ := Aside0.mk (below_step BL hb); clear HB; have HO277 := n0_; have HB := n1_; clear n0_ n1_; (try clear hb); (try clear hb2); (try clear hk); (try clear hi); (try clear ho0); obtain ⟨Ao11, co11, eo11⟩ := Kd.R_slice HO277.out; subst eo11) | ((with_reducible refine gate_callee (f := 56) rfl ?_); refine goesL_ (some 17) rfl rfl Tryd.func56 (by kernel_rfl) rfl #[.slice Ao11 t275.length co11] rfl EQ ?_; (with_reducible refine (nat_kept.calls (fun k_ => some k_ = (.slice Ao11 t275.length co11 : Value).ownBlock) (.slice Ao11 t275.length co11) t275 t278 t281 w _ ?side1 ?side2 A9.out).mono ?_); (case side1 => repeat (first | (with_reducible first | exact HB.out | apply below_alloc | apply pw_below_drewN | apply below_drew1) | exact HB.out)); (case side2 => exact Kd.R_tight rfl HO277.out); rintro e w12 ⟨v279, rfl, ho0, hb, hkp⟩; refine ⟨_, rfl, ?_⟩; have n0_ := Aside0.mk (Kd.R_mono (ok' := fun k_ => True) ho0 (fun k_ hk_ => trivial)); have n1_ := Aside0.mk (hb); clear HB; clear HO277; have HO280 := n0_; have HB := n1_; clear n0_ n1_; (try clear hb); (try clear hkp); (try clear ho0)))
        go_ret2
        exact ⟨_, by first | rfl | (simp [errW_none, errW_some] <;> rfl) | (simp [*, errW_none, errW_some] <;> rfl), by (with_reducible repeat (first | apply Kd.R_alloc | apply Kd.R_drewN | apply Kd.R_drew)); exact HO280.out, BL⟩

/-! ### nat_less: function 58 -/
set_option maxHeartbeats 8000000 in
set_option maxRecDepth 100000 in
theorem nat_less.calls (k : Nat) (A0 : Option Addr) (c0 : Nat) (l0 : List Int) (A1 : Option Addr) (c1 : Nat) (l1 : List Int) (r : List Int) (w : World) (hr0 : Kd.C (Kd.int .u32) w A0 l0.length l0) (hc0 : l0.length ≤ c0) (hr1 : Kd.C (Kd.int .u32) w A1 l1.length l1) (hc1 : l1.length ≤ c1) (h : nat_less.f k l0 l1 = some r) :
    Calls Tryd.prog 58 #[.slice A0 l0.length c0, .slice A1 l1.length c1] w fun e w' => ∃ v0_ : Value, e = .returned (v0_) ∧ Kd.R (Kd.int .u32) 36 w' w.heap.size (fun _ => True) v0_ r ∧ Below w.heap.size w w' := by
  have HR0 := Aside0.mk hr0
  have HC0 := Aside0.mk hc0
  clear hr0 hc0
  have HR1 := Aside0.mk hr1
  have HC1 := Aside0.mk hc1
  clear hr1 hc1
  have HB := Aside0.mk (Below.refl w.heap.size w)
  have H : (if 0 ≤ (l0.length : Int) then (if ((l0.length : Int) : Int).toNat ≤ 70368744177664 then ((some (List.replicate ((l0.length : Int) : Int).toNat 0 : List Int)).bind fun y282 => (nat_less.l0 k l0 l1 y282 0 (y282.length : Int) 0)) else (none)) else (none)) = some r := h
  clear h
  obtain ⟨c3, H⟩ := ite_p H
  have c3b0 := eq_true c3
  have c3b1 : decide (0 ≤ (l0.length : Int)) = true := decide_eq_true c3
  clear c3
  obtain ⟨c4, H⟩ := ite_p H
  have c4b0 := eq_true c4
  have c4b1 : decide (((l0.length : Int) : Int).toNat ≤ 70368744177664) = true := decide_eq_true c4
  clear c4
  obtain ⟨y282, Ny282, H⟩ := some_p H
  have H' := Aside0.mk H
  clear H
  go_enter Tryd.func58, Tryd.ntmps58
  go_wp2_with (first | ((with_reducible refine gate_dst (N := 11) rfl ?_); refine Kd.R_make (Kd.int .u32) _ 36 rfl (N := 11) rfl 22 _ _ rfl (l0.length : Int) rfl rfl Tryd.underlying22 (.int .u32 0) 4 info36 rfl (by decide) (by omega) 0 (ok := fun _ => True) (okp := fun _ => True) rfl (fun _ hk => hk) trivial (DA) (Nat.le_trans (Nat.mul_le_mul_right _ (DA : (l0.length : Int).toNat ≤ 70368744177664)) (by omega)) (Below.refl _ _) (Nat.le_refl _) ?_; intro v283 w5 ho6 hb hg_ hnew_; clear hg_ hnew_; (first | rw [← Ny282.out] at ho6 | (simp only [Int.reduceToNat] at ho6; rw [← Ny282.out] at ho6)); have n0_ := Aside0.mk (Kd.R_lower ho6 (below_size BL)); have n1_ := Aside0.mk (below_step BL hb); clear HB; have HO284 := n0_; have HB := n1_; clear n0_ n1_; clear hb ho6; obtain ⟨Ao7, co7, eo7⟩ := Kd.R_slice HO284.out; subst eo7))
  repeat (go_quiet (first | ((with_reducible refine gate_dst (N := 11) rfl ?_); refine Kd.R_make (Kd.int .u32) _ 36 rfl (N := 11) rfl 22 _ _ rfl (l0.length : Int) rfl rfl Tryd.underlying22 (.int .u32 0) 4 info36 rfl (by decide) (by omega) 0 (ok := fun _ => True) (okp := fun _ => True) rfl (fun _ hk => hk) trivial (DA) (Nat.le_trans (Nat.mul_le_mul_right _ (DA : (l0.length : Int).toNat ≤ 70368744177664)) (by omega)) (Below.refl _ _) (Nat.le_refl _) ?_; intro v283 w5 ho6 hb hg_ hnew_; clear hg_ hnew_; (first | rw [← Ny282.out] at ho6 | (simp only [Int.reduceToNat] at ho6; rw [← Ny282.out] at ho6)); have n0_ := Aside0.mk (Kd.R_lower ho6 (below_size BL)); have n1_ := Aside0.mk (below_step BL hb); clear HB; have HO284 := n0_; have HB := n1_; clear n0_ n1_; clear hb ho6; obtain ⟨Ao7, co7, eo7⟩ := Kd.R_slice HO284.out; subst eo7)); try go_wp2_with (first | ((with_reducible refine gate_dst (N := 11) rfl ?_); refine Kd.R_make (Kd.int .u32) _ 36 rfl (N := 11) rfl 22 _ _ rfl (l0.length : Int) rfl rfl Tryd.underlying22 (.int .u32 0) 4 info36 rfl (by decide) (by omega) 0 (ok := fun _ => True) (okp := fun _ => True) rfl (fun _ hk => hk) trivial (DA) (Nat.le_trans (Nat.mul_le_mul_right _ (DA : (l0.length : Int).toNat ≤ 70368744177664)) (by omega)) (Below.refl _ _) (Nat.le_refl _) ?_; intro v283 w5 ho6 hb hg_ hnew_; clear hg_ hnew_; (first | rw [← Ny282.out] at ho6 | (simp only [Int.reduceToNat] at ho6; rw [← Ny282.out] at ho6)); have n0_ := Aside0.mk (Kd.R_lower ho6 (below_size BL)); have n1_ := Aside0.mk (below_step BL hb); clear HB; have HO284 := n0_; have HB := n1_; clear n0_ n1_; clear hb ho6; obtain ⟨Ao7, co7, eo7⟩ := Kd.R_slice HO284.out; subst eo7)))
  go_loopg [6, 14] k (fun kq v6 v14 w' => ∃ (x5_1 : List Int) (x6_1 : Int) (x14_1 : Int), v6 = .int .u64 x6_1 ∧ v14 = .int .i64 x14_1 ∧ Aside0 (nat_less.l0 kq l0 l1 x5_1 x6_1 (y282.length : Int) x14_1 = some r) ∧ Aside0 (kq ≤ k) ∧ Aside0 (Kd.R (Kd.int .u32) 36 w' w.heap.size (fun _ => True) (.slice Ao7 y282.length co7) x5_1) ∧ Aside0 (Below w.heap.size w w'))
  case atStart => exact ⟨(y282), (0), (0), (by first | rfl | (simp; done) | (simp [*]; done) | (simp; exact isEmpty_bne _)), (by first | rfl | (simp; done) | (simp [*]; done) | (simp; exact isEmpty_bne _)), H', ⟨Nat.le_refl _⟩, ⟨by (with_reducible repeat (first | apply Kd.R_alloc | apply Kd.R_drewN | apply Kd.R_drew)); exact HO284.out⟩, ⟨BL⟩⟩
  case round =>
    clear H'
    try clear c1
    try clear p2
    try clear c3
    try clear c3b0
    try clear c3b1
    try clear c4
    try clear c4b0
    try clear c4b1
    try clear c5
    obtain ⟨x5_1, x6_1, x14_1, rfl, rfl, HA, HK1, HO_5, HB⟩ := hrel
    have hl5_1 := (Kd.R_reads' HO_5.out).1
    rw [hl5_1] at HO_5
    (try simp only [hl5_1])
    cases gk with
    | zero => exact absurd HA.out (by simp [nat_less.l0])
    | succ k1 =>
      have H := HA.out
      clear HA
      simp only [nat_less.l0] at H
      by_cases c8 : x14_1 < (y282.length : Int)
      · rw [if_pos c8] at H
        have c8b0 : decide (x14_1 < (y282.length : Int)) = true := decide_eq_true c8
        (try (have c8h0 := c8b0; simp only [hl5_1] at c8h0))
        clear c8
        obtain ⟨c9, H⟩ := ite_p H
        have c9b0 : decide (0 ≤ x14_1) = true := decide_eq_true c9
        clear c9
        obtain ⟨c10, H⟩ := ite_p H
        have c10b0 : decide (x14_1 < (l0.length : Int)) = true := decide_eq_true c10
        (try (have c10h0 := c10b0; simp only [hl5_1] at c10h0))
        clear c10
        obtain ⟨t286, A11, H⟩ := bind_p H
        obtain ⟨c12, H⟩ := ite_p H
        have c12b0 : decide (x14_1 < (x5_1.length : Int)) = true := decide_eq_true c12
        (try (have c12h0 := c12b0; simp only [hl5_1] at c12h0))
        clear c12
        obtain ⟨y287, Ny287⟩ := let_p (x5_1.set (x14_1 : Int).toNat ((IntKind.u64.wrap ((IntKind.u64.wrap ((IntKind.u64.wrap (rd l0 x14_1)) - t286)) - x6_1)) % 4294967296) : List Int)
        (first | rw [← Ny287.out] at H | simp only [← Ny287.out] at H)
        have H' := Aside0.mk H
        clear H
        have p285 : 0 ≤ (x14_1 : Int) := DA
        have q285 : x14_1 < (l0.length : Int) := DA
        obtain ⟨ad285, e285, hx285_0⟩ := Kd.at_int HR0.out x14_1 p285 q285
        cases e285
        replace hx285_0 := (HB.out.cell (World.block_lt_of_cell? w _ hx285_0)).trans hx285_0
        replace p285 := eq_true p285
        replace q285 := eq_true q285
        go_wp2_with (first | (go_at_call 74; (with_reducible refine (nat_at.calls _ _ l1 x14_1 t286 _ ?side1 ?side2 A11.out).mono ?_); (case side1 => exact CB HR1); (case side2 => exact HC1.out); rintro e w' ⟨rfl, ⟨nd, rfl⟩⟩; (try first | exact ⟨rfl, _, World.drewN_drewN _ _ _⟩ | exact ⟨rfl, _, Eq.trans (World.drewN_drewN _ _ _) (congrArg (World.drewN _) (Nat.add_assoc _ _ _))⟩); have p13 : 0 ≤ (x14_1 : Int) := DA; have q13 : (x14_1 : Int) < ((x5_1.length : Int) : Int) := DA; obtain ⟨go13, co13, eo13, gb13, gl13, cl13, HG13⟩ := Kd.R_form HO_5.out (by omega); (first | cases eo13 | (injection eo13 with ea_ en_ ec_; (first | subst ea_ | (injection ea_ with ea_; subst ea_)); subst ec_; clear en_)); have GB13 := Aside0.mk gb13; have GG13 := Aside0.mk HG13; clear gb13 gl13 HG13; obtain ⟨hx13_0, hf13_0⟩ := Kd.R_celln 0 HO_5.out (x14_1 : Int) p13 q13; replace p13 := eq_true p13; replace q13 := eq_true q13; obtain ⟨hy14_, hz14_⟩ := Kd.R_celln 0 HO_5.out (x14_1 : Int) (DA) (DA); have HP14 := Kd.R_putg HO_5.out (x14_1 : Int) ((IntKind.u64.wrap ((IntKind.u64.wrap ((IntKind.u64.wrap (rd l0 x14_1)) - t286)) - x6_1)) % 4294967296)) | ((with_reducible refine gate_store (t := 36) (p := 32) rfl ?_); (try (rw [drewN_self wr]; generalize hq_ : World.drewN wr _ = wr; have n0_ := Aside0.mk (Kd.R_at hq_ HO_5.out); have n1_ := Aside0.mk (below_at hq_ HB.out); clear hq_ HO_5 HB; have HO_5 := n0_; have HB := n1_; clear n0_ n1_; (try (obtain ⟨hx13_0, hf13_0⟩ := Kd.R_celln 0 HO_5.out (x14_1 : Int) (of_eq_true p13) (of_eq_true q13))); (try (obtain ⟨hy14_, hz14_⟩ := Kd.R_celln 0 HO_5.out (x14_1 : Int) (DA) (DA))); (try (have HP14 := Kd.R_putg HO_5.out (x14_1 : Int) ((IntKind.u64.wrap ((IntKind.u64.wrap ((IntKind.u64.wrap (rd l0 x14_1)) - t286)) - x6_1)) % 4294967296))))); refine store_event (t := 36) (p := 32) (v := ?vo_w15) (w1 := (wr.setCell ⟨go13, (x14_1 : Int).toNat, none⟩ (.int .u32 ((IntKind.u64.wrap ((IntKind.u64.wrap ((IntKind.u64.wrap (rd l0 x14_1)) - t286)) - x6_1)) % 4294967296)))) ?hg ?ho ?hn ?hr ?_; (case ho => rfl); (case hg => rfl); (case hn => rfl); (case hr => first | (go_simp; done) | (go_simp; rfl)); intro w15 hw; have hg : wr.grownBy w15 (some go13) := (by rw [hw]; exact HP14.2); have hp_ : Kd.R (Kd.int .u32) 36 w15 w.heap.size (fun _ => True) (.slice (some ⟨go13, 0, none⟩) x5_1.length co7) y287 := (by rw [hw, Ny287.out]; exact HP14.1); clear HP14; have n0_ := Aside0.mk (hp_); have n1_ := Aside0.mk ((by rw [hw]; exact below_set (HB.out) GB13.out : Below w.heap.size w w15)); clear HO_5; clear HB; have HO_5 := n0_; have HB := n1_; clear n0_ n1_; clear hg hw hp_))
        repeat (go_quiet (first | (go_at_call 74; (with_reducible refine (nat_at.calls _ _ l1 x14_1 t286 _ ?side1 ?side2 A11.out).mono ?_); (case side1 => exact CB HR1); (case side2 => exact HC1.out); rintro e w' ⟨rfl, ⟨nd, rfl⟩⟩; (try first | exact ⟨rfl, _, World.drewN_drewN _ _ _⟩ | exact ⟨rfl, _, Eq.trans (World.drewN_drewN _ _ _) (congrArg (World.drewN _) (Nat.add_assoc _ _ _))⟩); have p13 : 0 ≤ (x14_1 : Int) := DA; have q13 : (x14_1 : Int) < ((x5_1.length : Int) : Int) := DA; obtain ⟨go13, co13, eo13, gb13, gl13, cl13, HG13⟩ := Kd.R_form HO_5.out (by omega); (first | cases eo13 | (injection eo13 with ea_ en_ ec_; (first | subst ea_ | (injection ea_ with ea_; subst ea_)); subst ec_; clear en_)); have GB13 := Aside0.mk gb13; have GG13 := Aside0.mk HG13; clear gb13 gl13 HG13; obtain ⟨hx13_0, hf13_0⟩ := Kd.R_celln 0 HO_5.out (x14_1 : Int) p13 q13; replace p13 := eq_true p13; replace q13 := eq_true q13; obtain ⟨hy14_, hz14_⟩ := Kd.R_celln 0 HO_5.out (x14_1 : Int) (DA) (DA); have HP14 := Kd.R_putg HO_5.out (x14_1 : Int) ((IntKind.u64.wrap ((IntKind.u64.wrap ((IntKind.u64.wrap (rd l0 x14_1)) - t286)) - x6_1)) % 4294967296)) | ((with_reducible refine gate_store (t := 36) (p := 32) rfl ?_); (try (rw [drewN_self wr]; generalize hq_ : World.drewN wr _ = wr; have n0_ := Aside0.mk (Kd.R_at hq_ HO_5.out); have n1_ := Aside0.mk (below_at hq_ HB.out); clear hq_ HO_5 HB; have HO_5 := n0_; have HB := n1_; clear n0_ n1_; (try (obtain ⟨hx13_0, hf13_0⟩ := Kd.R_celln 0 HO_5.out (x14_1 : Int) (of_eq_true p13) (of_eq_true q13))); (try (obtain ⟨hy14_, hz14_⟩ := Kd.R_celln 0 HO_5.out (x14_1 : Int) (DA) (DA))); (try (have HP14 := Kd.R_putg HO_5.out (x14_1 : Int) ((IntKind.u64.wrap ((IntKind.u64.wrap ((IntKind.u64.wrap (rd l0 x14_1)) - t286)) - x6_1)) % 4294967296))))); refine store_event (t := 36) (p := 32) (v := ?vo_w15) (w1 := (wr.setCell ⟨go13, (x14_1 : Int).toNat, none⟩ (.int .u32 ((IntKind.u64.wrap ((IntKind.u64.wrap ((IntKind.u64.wrap (rd l0 x14_1)) - t286)) - x6_1)) % 4294967296)))) ?hg ?ho ?hn ?hr ?_; (case ho => rfl); (case hg => rfl); (case hn => rfl); (case hr => first | (go_simp; done) | (go_simp; rfl)); intro w15 hw; have hg : wr.grownBy w15 (some go13) := (by rw [hw]; exact HP14.2); have hp_ : Kd.R (Kd.int .u32) 36 w15 w.heap.size (fun _ => True) (.slice (some ⟨go13, 0, none⟩) x5_1.length co7) y287 := (by rw [hw, Ny287.out]; exact HP14.1); clear HP14; have n0_ := Aside0.mk (hp_); have n1_ := Aside0.mk ((by rw [hw]; exact below_set (HB.out) GB13.out : Below w.heap.size w w15)); clear HO_5; clear HB; have HO_5 := n0_; have HB := n1_; clear n0_ n1_; clear hg hw hp_)); try go_wp2_with (first | (go_at_call 74; (with_reducible refine (nat_at.calls _ _ l1 x14_1 t286 _ ?side1 ?side2 A11.out).mono ?_); (case side1 => exact CB HR1); (case side2 => exact HC1.out); rintro e w' ⟨rfl, ⟨nd, rfl⟩⟩; (try first | exact ⟨rfl, _, World.drewN_drewN _ _ _⟩ | exact ⟨rfl, _, Eq.trans (World.drewN_drewN _ _ _) (congrArg (World.drewN _) (Nat.add_assoc _ _ _))⟩); have p13 : 0 ≤ (x14_1 : Int) := DA; have q13 : (x14_1 : Int) < ((x5_1.length : Int) : Int) := DA; obtain ⟨go13, co13, eo13, gb13, gl13, cl13, HG13⟩ := Kd.R_form HO_5.out (by omega); (first | cases eo13 | (injection eo13 with ea_ en_ ec_; (first | subst ea_ | (injection ea_ with ea_; subst ea_)); subst ec_; clear en_)); have GB13 := Aside0.mk gb13; have GG13 := Aside0.mk HG13; clear gb13 gl13 HG13; obtain ⟨hx13_0, hf13_0⟩ := Kd.R_celln 0 HO_5.out (x14_1 : Int) p13 q13; replace p13 := eq_true p13; replace q13 := eq_true q13; obtain ⟨hy14_, hz14_⟩ := Kd.R_celln 0 HO_5.out (x14_1 : Int) (DA) (DA); have HP14 := Kd.R_putg HO_5.out (x14_1 : Int) ((IntKind.u64.wrap ((IntKind.u64.wrap ((IntKind.u64.wrap (rd l0 x14_1)) - t286)) - x6_1)) % 4294967296)) | ((with_reducible refine gate_store (t := 36) (p := 32) rfl ?_); (try (rw [drewN_self wr]; generalize hq_ : World.drewN wr _ = wr; have n0_ := Aside0.mk (Kd.R_at hq_ HO_5.out); have n1_ := Aside0.mk (below_at hq_ HB.out); clear hq_ HO_5 HB; have HO_5 := n0_; have HB := n1_; clear n0_ n1_; (try (obtain ⟨hx13_0, hf13_0⟩ := Kd.R_celln 0 HO_5.out (x14_1 : Int) (of_eq_true p13) (of_eq_true q13))); (try (obtain ⟨hy14_, hz14_⟩ := Kd.R_celln 0 HO_5.out (x14_1 : Int) (DA) (DA))); (try (have HP14 := Kd.R_putg HO_5.out (x14_1 : Int) ((IntKind.u64.wrap ((IntKind.u64.wrap ((IntKind.u64.wrap (rd l0 x14_1)) - t286)) - x6_1)) % 4294967296))))); refine store_event (t := 36) (p := 32) (v := ?vo_w15) (w1 := (wr.setCell ⟨go13, (x14_1 : Int).toNat, none⟩ (.int .u32 ((IntKind.u64.wrap ((IntKind.u64.wrap ((IntKind.u64.wrap (rd l0 x14_1)) - t286)) - x6_1)) % 4294967296)))) ?hg ?ho ?hn ?hr ?_; (case ho => rfl); (case hg => rfl); (case hn => rfl); (case hr => first | (go_simp; done) | (go_simp; rfl)); intro w15 hw; have hg : wr.grownBy w15 (some go13) := (by rw [hw]; exact HP14.2); have hp_ : Kd.R (Kd.int .u32) 36 w15 w.heap.size (fun _ => True) (.slice (some ⟨go13, 0, none⟩) x5_1.length co7) y287 := (by rw [hw, Ny287.out]; exact HP14.1); clear HP14; have n0_ := Aside0.mk (hp_); have n1_ := Aside0.mk ((by rw [hw]; exact below_set (HB.out) GB13.out : Below w.heap.size w w15)); clear HO_5; clear HB; have HO_5 := n0_; have HB := n1_; clear n0_ n1_; clear hg hw hp_)))
        (try simp only [← hl5_1])
        go_roundg k1
        case measure => have := HK1.out; omega
        case rel => exact ⟨(y287), ((IntKind.u64.wrap ((IntKind.u64.wrap ((IntKind.u64.wrap (rd l0 x14_1)) - t286)) - x6_1)) / 9223372036854775808), (wrap64 (x14_1 + 1)), (by first | rfl | (simp; done) | (simp [*]; done) | (simp; exact isEmpty_bne _)), (by first | rfl | (simp; done) | (simp [*]; done) | (simp; exact isEmpty_bne _)), H', ⟨by have := HK1.out; omega⟩, ⟨by (try simp only [hl5_1]); (with_reducible repeat (first | apply Kd.R_alloc | apply Kd.R_drewN | apply Kd.R_drew)); exact HO_5.out⟩, ⟨BL⟩⟩
      · rw [if_neg c8] at H
        have c8b0 : decide (x14_1 < (y282.length : Int)) = false := decide_eq_false c8
        (try (have c8h0 := c8b0; simp only [hl5_1] at c8h0))
        clear c8
        obtain ⟨t288, A16, H⟩ := bind_p H
        obtain rfl := Option.some.inj H
        go_wp2_with (first | (go_at_call 55; (with_reducible refine (nat_trim.calls k1 (fun k_ => some k_ = (.slice Ao7 x5_1.length co7 : Value).ownBlock) (.slice Ao7 x5_1.length co7) x5_1 t288 w _ ?side1 ?side2 A16.out).mono ?_); (case side1 => repeat (first | (with_reducible first | exact HB.out | apply below_alloc | apply pw_below_drewN | apply below_drew1) | exact HB.out)); (case side2 => exact Kd.R_tight rfl HO_5.out); rintro e w17 ⟨v289, rfl, ho0, hb, hkp⟩; have n0_ := Aside0.mk (Kd.R_mono (ok' := fun k_ => True) ho0 (fun k_ hk_ => trivial)); have n1_ := Aside0.mk (hb); clear HB; clear HO_5; have HO290 := n0_; have HB := n1_; clear n0_ n1_; (try clear hb); (try clear hkp); (try clear ho0)))
        repeat (go_quiet (first | (go_at_call 55; (with_reducible refine (nat_trim.calls k1 (fun k_ => some k_ = (.slice Ao7 x5_1.length co7 : Value).ownBlock) (.slice Ao7 x5_1.length co7) x5_1 t288 w _ ?side1 ?side2 A16.out).mono ?_); (case side1 => repeat (first | (with_reducible first | exact HB.out | apply below_alloc | apply pw_below_drewN | apply below_drew1) | exact HB.out)); (case side2 => exact Kd.R_tight rfl HO_5.out); rintro e w17 ⟨v289, rfl, ho0, hb, hkp⟩; have n0_ := Aside0.mk (Kd.R_mono (ok' := fun k_ => True) ho0 (fun k_ hk_ => trivial)); have n1_ := Aside0.mk (hb); clear HB; clear HO_5; have HO290 := n0_; have HB := n1_; clear n0_ n1_; (try clear hb); (try clear hkp); (try clear ho0))); try go_wp2_with (first | (go_at_call 55; (with_reducible refine (nat_trim.calls k1 (fun k_ => some k_ = (.slice Ao7 x5_1.length co7 : Value).ownBlock) (.slice Ao7 x5_1.length co7) x5_1 t288 w _ ?side1 ?side2 A16.out).mono ?_); (case side1 => repeat (first | (with_reducible first | exact HB.out | apply below_alloc | apply pw_below_drewN | apply below_drew1) | exact HB.out)); (case side2 => exact Kd.R_tight rfl HO_5.out); rintro e w17 ⟨v289, rfl, ho0, hb, hkp⟩; have n0_ := Aside0.mk (Kd.R_mono (ok' := fun k_ => True) ho0 (fun k_ hk_ => trivial)); have n1_ := Aside0.mk (hb); clear HB; clear HO_5; have HO290 := n0_; have HB := n1_; clear n0_ n1_; (try clear hb); (try clear hkp); (try clear ho0))))
        go_ret
        exact ⟨_, by first | rfl | (simp [errW_none, errW_some] <;> rfl) | (simp [*, errW_none, errW_some] <;> rfl), by (with_reducible repeat (first | apply Kd.R_alloc | apply Kd.R_drewN | apply Kd.R_drew)); exact HO290.out, BL⟩

/-! ### nat_Sub: function 32 -/
set_option maxHeartbeats 8000000 in
set_option maxRecDepth 100000 in
theorem nat_Sub.calls (k : Nat) (A0 : Option Addr) (c0 : Nat) (l0 : List Int) (A1 : Option Addr) (c1 : Nat) (l1 : List Int) (r1 : List Int) (r2 : Int) (w : World) (hr0 : Kd.C (Kd.int .u32) w A0 l0.length l0) (hc0 : l0.length ≤ c0) (hr1 : Kd.C (Kd.int .u32) w A1 l1.length l1) (hc1 : l1.length ≤ c1) (h : nat_Sub.f k l0 l1 = some (r1, r2)) :
    Calls Tryd.prog 32 #[.slice A0 l0.length c0, .slice A1 l1.length c1] w fun e w' => ∃ v0_ : Value, e = .returned (.tuple #[v0_, .int .i64 r2]) ∧ Kd.R (Kd.int .u32) 36 w' w.heap.size (fun _ => True) v0_ r1 ∧ Below w.heap.size w w' := by
  have HR0 := Aside0.mk hr0
  have HC0 := Aside0.mk hc0
  clear hr0 hc0
  have HR1 := Aside0.mk hr1
  have HC1 := Aside0.mk hc1
  clear hr1 hc1
  have HB := Aside0.mk (Below.refl w.heap.size w)
  have H : ((nat_Right.f l0).bind fun t291 => (if t291 = true then ((nat_Right.f l1).bind fun t292 => (if t292 = true then ((nat_order.f k l0 l1).bind fun t293 => (if t293 < 0 then (some (([] : List Int), 1)) else ((nat_less.f k l0 l1).bind fun t294 => (some (t294, 0))))) else (some (([] : List Int), 1)))) else (some (([] : List Int), 1)))) = some (r1, r2) := h
  clear h
  obtain ⟨t291, A3, H⟩ := bind_p H
  by_cases c4 : t291 = true
  · subst c4
    have H1 : ((nat_Right.f l1).bind fun t292 => (if t292 = true then ((nat_order.f k l0 l1).bind fun t293 => (if t293 < 0 then (some (([] : List Int), 1)) else ((nat_less.f k l0 l1).bind fun t294 => (some (t294, 0))))) else (some (([] : List Int), 1)))) = some (r1, r2) := by rw [if_pos rfl] at H; exact H
    clear H
    have H := H1
    clear H1
    obtain ⟨t292, A5, H⟩ := bind_p H
    by_cases c6 : t292 = true
    · subst c6
      have H1 : ((nat_order.f k l0 l1).bind fun t293 => (if t293 < 0 then (some (([] : List Int), 1)) else ((nat_less.f k l0 l1).bind fun t294 => (some (t294, 0))))) = some (r1, r2) := by rw [if_pos rfl] at H; exact H
      clear H
      have H := H1
      clear H1
      obtain ⟨t293, A7, H⟩ := bind_p H
      by_cases c8 : t293 < 0
      · rw [if_pos c8] at H
        have c8b0 : decide (t293 < 0) = true := decide_eq_true c8
        clear c8
        simp only [Option.some.injEq, Prod.mk.injEq] at H
        obtain ⟨rfl, rfl⟩ := H
        go_enter Tryd.func32, Tryd.ntmps32
        go_wp2_with (first | ((with_reducible refine gate_callee (f := 20) rfl ?_); refine goesL_ (some 7) rfl rfl Tryd.func20 (by kernel_rfl) rfl #[.slice A0 l0.length c0] rfl EQ ?_; (with_reducible refine (nat_Right.calls _ _ l0 true _ ?side1 ?side2 A3.out).mono ?_); (case side1 => repeat (first | exact HR0.out | (with_reducible refine Kd.C_alloc ?_ _) | (with_reducible refine Kd.C_drewN ?_ _) | (with_reducible refine Kd.C_drew ?_))); (case side2 => exact HC0.out); rintro e w' ⟨rfl, ⟨nd, rfl⟩⟩; refine ⟨_, rfl, ?_⟩) | (go_at_call 20; (with_reducible refine (nat_Right.calls _ _ l1 true _ ?side1 ?side2 A5.out).mono ?_); (case side1 => repeat (first | exact HR1.out | (with_reducible refine Kd.C_alloc ?_ _) | (with_reducible refine Kd.C_drewN ?_ _) | (with_reducible refine Kd.C_drew ?_))); (case side2 => exact HC1.out); rintro e w' ⟨rfl, ⟨nd, rfl⟩⟩) | (go_at_call 57; (with_reducible refine (nat_order.calls k _ _ l0 _ _ l1 t293 _ ?side1 ?side2 ?side3 ?side4 A7.out).mono ?_); (case side1 => repeat (first | exact HR0.out | (with_reducible refine Kd.C_alloc ?_ _) | (with_reducible refine Kd.C_drewN ?_ _) | (with_reducible refine Kd.C_drew ?_))); (case side2 => exact HC0.out); (case side3 => repeat (first | exact HR1.out | (with_reducible refine Kd.C_alloc ?_ _) | (with_reducible refine Kd.C_drewN ?_ _) | (with_reducible refine Kd.C_drew ?_))); (case side4 => exact HC1.out); rintro e w9 ⟨rfl, hb⟩; have n0_ := Aside0.mk (below_step BL hb); clear HB; have HB := n0_; clear n0_; (try clear hb); (try clear hb2); (try clear hk); (try clear hi)))
        go_ret2
        exact ⟨_, by first | rfl | (simp [errW_none, errW_some] <;> rfl) | (simp [*, errW_none, errW_some] <;> rfl), by first | exact Kd.R_nil _ _ _ _ _ | exact Kd.N_nil _ _ _ _ _ | exact Kd.V_nil _ _ _ _ _ | exact Kd.Q_nil _ _ _ _ _ | exact Kd.S_nil _ _ _ _ _, BL⟩
      · rw [if_neg c8] at H
        have c8b0 : decide (t293 < 0) = false := decide_eq_false c8
        clear c8
        obtain ⟨t294, A10, H⟩ := bind_p H
        simp only [Option.some.injEq, Prod.mk.injEq] at H
        obtain ⟨rfl, rfl⟩ := H
        go_enter Tryd.func32, Tryd.ntmps32
        go_wp2_with (first | ((with_reducible refine gate_callee (f := 20) rfl ?_); refine goesL_ (some 7) rfl rfl Tryd.func20 (by kernel_rfl) rfl #[.slice A0 l0.length c0] rfl EQ ?_; (with_reducible refine (nat_Right.calls _ _ l0 true _ ?side1 ?side2 A3.out).mono ?_); (case side1 => repeat (first | exact HR0.out | (with_reducible refine Kd.C_alloc ?_ _) | (with_reducible refine Kd.C_drewN ?_ _) | (with_reducible refine Kd.C_drew ?_))); (case side2 => exact HC0.out); rintro e w' ⟨rfl, ⟨nd, rfl⟩⟩; refine ⟨_, rfl, ?_⟩) | (go_at_call 20; (with_reducible refine (nat_Right.calls _ _ l1 true _ ?side1 ?side2 A5.out).mono ?_); (case side1 => repeat (first | exact HR1.out | (with_reducible refine Kd.C_alloc ?_ _) | (with_reducible refine Kd.C_drewN ?_ _) | (with_reducible refine Kd.C_drew ?_))); (case side2 => exact HC1.out); rintro e w' ⟨rfl, ⟨nd, rfl⟩⟩) | (go_at_call 57; (with_reducible refine (nat_order.calls k _ _ l0 _ _ l1 t293 _ ?side1 ?side2 ?side3 ?side4 A7.out).mono ?_); (case side1 => repeat (first | exact HR0.out | (with_reducible refine Kd.C_alloc ?_ _) | (with_reducible refine Kd.C_drewN ?_ _) | (with_reducible refine Kd.C_drew ?_))); (case side2 => exact HC0.out); (case side3 => repeat (first | exact HR1.out | (with_reducible refine Kd.C_alloc ?_ _) | (with_reducible refine Kd.C_drewN ?_ _) | (with_reducible refine Kd.C_drew ?_))); (case side4 => exact HC1.out); rintro e w11 ⟨rfl, hb⟩; have n0_ := Aside0.mk (below_step BL hb); clear HB; have HB := n0_; clear n0_; (try clear hb); (try clear hb2); (try clear hk); (try clear hi)) | ((with_reducible refine gate_callee (f := 58) rfl ?_); refine goesL_ (some 22) rfl rfl Tryd.func58 (by kernel_rfl) rfl #[.slice A0 l0.length c0, .slice A1 l1.length c1] rfl EQ ?_; (with_reducible refine (nat_less.calls k _ _ l0 _ _ l1 t294 _ ?side1 ?side2 ?side3 ?side4 A10.out).mono ?_); (case side1 => exact CB HR0); (case side2 => exact HC0.out); (case side3 => exact CB HR1); (case side4 => exact HC1.out); rintro e w12 ⟨v295, rfl, ho0, hb⟩; refine ⟨_, rfl, ?_⟩; have n0_ := Aside0.mk (Kd.R_lower ho0 (below_size BL)); have n1_ := Aside0.mk (below_step BL hb); clear HB; have HO296 := n0_; have HB := n1_; clear n0_ n1_; (try clear hb); (try clear hb2); (try clear hk); (try clear hi); (try clear ho0)))
        go_ret2
        exact ⟨_, by first | rfl | (simp [errW_none, errW_some] <;> rfl) | (simp [*, errW_none, errW_some] <;> rfl), by (with_reducible repeat (first | apply Kd.R_alloc | apply Kd.R_drewN | apply Kd.R_drew)); exact HO296.out, BL⟩
    · replace c6 := Bool.eq_false_iff.mpr c6
      subst c6
      have H1 : (some (([] : List Int), 1)) = some (r1, r2) := by rw [if_neg (show ¬ (false = true) by decide)] at H; exact H
      clear H
      have H := H1
      clear H1
      simp only [Option.some.injEq, Prod.mk.injEq] at H
      obtain ⟨rfl, rfl⟩ := H
      go_enter Tryd.func32, Tryd.ntmps32
      go_wp2_with (first | ((with_reducible refine gate_callee (f := 20) rfl ?_); refine goesL_ (some 7) rfl rfl Tryd.func20 (by kernel_rfl) rfl #[.slice A0 l0.length c0] rfl EQ ?_; (with_reducible refine (nat_Right.calls _ _ l0 true _ ?side1 ?side2 A3.out).mono ?_); (case side1 => repeat (first | exact HR0.out | (with_reducible refine Kd.C_alloc ?_ _) | (with_reducible refine Kd.C_drewN ?_ _) | (with_reducible refine Kd.C_drew ?_))); (case side2 => exact HC0.out); rintro e w' ⟨rfl, ⟨nd, rfl⟩⟩; refine ⟨_, rfl, ?_⟩) | (go_at_call 20; (with_reducible refine (nat_Right.calls _ _ l1 false _ ?side1 ?side2 A5.out).mono ?_); (case side1 => repeat (first | exact HR1.out | (with_reducible refine Kd.C_alloc ?_ _) | (with_reducible refine Kd.C_drewN ?_ _) | (with_reducible refine Kd.C_drew ?_))); (case side2 => exact HC1.out); rintro e w' ⟨rfl, ⟨nd, rfl⟩⟩))
      go_ret2
      exact ⟨_, by first | rfl | (simp [errW_none, errW_some] <;> rfl) | (simp [*, errW_none, errW_some] <;> rfl), by first | exact Kd.R_nil _ _ _ _ _ | exact Kd.N_nil _ _ _ _ _ | exact Kd.V_nil _ _ _ _ _ | exact Kd.Q_nil _ _ _ _ _ | exact Kd.S_nil _ _ _ _ _, BL⟩
  · replace c4 := Bool.eq_false_iff.mpr c4
    subst c4
    have H1 : (some (([] : List Int), 1)) = some (r1, r2) := by rw [if_neg (show ¬ (false = true) by decide)] at H; exact H
    clear H
    have H := H1
    clear H1
    simp only [Option.some.injEq, Prod.mk.injEq] at H
    obtain ⟨rfl, rfl⟩ := H
    go_enter Tryd.func32, Tryd.ntmps32
    go_wp2_with (first | ((with_reducible refine gate_callee (f := 20) rfl ?_); refine goesL_ (some 7) rfl rfl Tryd.func20 (by kernel_rfl) rfl #[.slice A0 l0.length c0] rfl EQ ?_; (with_reducible refine (nat_Right.calls _ _ l0 false _ ?side1 ?side2 A3.out).mono ?_); (case side1 => repeat (first | exact HR0.out | (with_reducible refine Kd.C_alloc ?_ _) | (with_reducible refine Kd.C_drewN ?_ _) | (with_reducible refine Kd.C_drew ?_))); (case side2 => exact HC0.out); rintro e w' ⟨rfl, ⟨nd, rfl⟩⟩; refine ⟨_, rfl, ?_⟩))
    go_ret2
    exact ⟨_, by first | rfl | (simp [errW_none, errW_some] <;> rfl) | (simp [*, errW_none, errW_some] <;> rfl), by first | exact Kd.R_nil _ _ _ _ _ | exact Kd.N_nil _ _ _ _ _ | exact Kd.V_nil _ _ _ _ _ | exact Kd.Q_nil _ _ _ _ _ | exact Kd.S_nil _ _ _ _ _, BL⟩

/-! ### nat_Cmp: function 33 -/
set_option maxHeartbeats 8000000 in
set_option maxRecDepth 100000 in
theorem nat_Cmp.calls (k : Nat) (A0 : Option Addr) (c0 : Nat) (l0 : List Int) (A1 : Option Addr) (c1 : Nat) (l1 : List Int) (r : Int) (w : World) (hr0 : Kd.C (Kd.int .u32) w A0 l0.length l0) (hc0 : l0.length ≤ c0) (hr1 : Kd.C (Kd.int .u32) w A1 l1.length l1) (hc1 : l1.length ≤ c1) (h : nat_Cmp.f k l0 l1 = some r) :
    Calls Tryd.prog 33 #[.slice A0 l0.length c0, .slice A1 l1.length c1] w fun e w' => e = .returned (.int .i64 r) ∧ Below w.heap.size w w' := by
  have HR0 := Aside0.mk hr0
  have HC0 := Aside0.mk hc0
  clear hr0 hc0
  have HR1 := Aside0.mk hr1
  have HC1 := Aside0.mk hc1
  clear hr1 hc1
  have HB := Aside0.mk (Below.refl w.heap.size w)
  have H : ((nat_Right.f l0).bind fun t297 => (if t297 = true then ((nat_Right.f l1).bind fun t298 => (if t298 = true then ((nat_order.f k l0 l1).bind fun t299 => (some t299)) else (some 0))) else (some 0))) = some r := h
  clear h
  obtain ⟨t297, A3, H⟩ := bind_p H
  by_cases c4 : t297 = true
  · subst c4
    have H1 : ((nat_Right.f l1).bind fun t298 => (if t298 = true then ((nat_order.f k l0 l1).bind fun t299 => (some t299)) else (some 0))) = some r := by rw [if_pos rfl] at H; exact H
    clear H
    have H := H1
    clear H1
    obtain ⟨t298, A5, H⟩ := bind_p H
    by_cases c6 : t298 = true
    · subst c6
      have H1 : ((nat_order.f k l0 l1).bind fun t299 => (some t299)) = some r := by rw [if_pos rfl] at H; exact H
      clear H
      have H := H1
      clear H1
      obtain ⟨t299, A7, H⟩ := bind_p H
      obtain rfl := Option.some.inj H
      go_enter Tryd.func33, Tryd.ntmps33
      go_wp2_with (first | ((with_reducible refine gate_callee (f := 20) rfl ?_); refine goesL_ (some 6) rfl rfl Tryd.func20 (by kernel_rfl) rfl #[.slice A0 l0.length c0] rfl EQ ?_; (with_reducible refine (nat_Right.calls _ _ l0 true _ ?side1 ?side2 A3.out).mono ?_); (case side1 => repeat (first | exact HR0.out | (with_reducible refine Kd.C_alloc ?_ _) | (with_reducible refine Kd.C_drewN ?_ _) | (with_reducible refine Kd.C_drew ?_))); (case side2 => exact HC0.out); rintro e w' ⟨rfl, ⟨nd, rfl⟩⟩; refine ⟨_, rfl, ?_⟩) | (go_at_call 20; (with_reducible refine (nat_Right.calls _ _ l1 true _ ?side1 ?side2 A5.out).mono ?_); (case side1 => repeat (first | exact HR1.out | (with_reducible refine Kd.C_alloc ?_ _) | (with_reducible refine Kd.C_drewN ?_ _) | (with_reducible refine Kd.C_drew ?_))); (case side2 => exact HC1.out); rintro e w' ⟨rfl, ⟨nd, rfl⟩⟩) | ((with_reducible refine gate_callee (f := 57) rfl ?_); refine goesL_ (some 15) rfl rfl Tryd.func57 (by kernel_rfl) rfl #[.slice A0 l0.length c0, .slice A1 l1.length c1] rfl EQ ?_; (with_reducible refine (nat_order.calls k _ _ l0 _ _ l1 t299 _ ?side1 ?side2 ?side3 ?side4 A7.out).mono ?_); (case side1 => repeat (first | exact HR0.out | (with_reducible refine Kd.C_alloc ?_ _) | (with_reducible refine Kd.C_drewN ?_ _) | (with_reducible refine Kd.C_drew ?_))); (case side2 => exact HC0.out); (case side3 => repeat (first | exact HR1.out | (with_reducible refine Kd.C_alloc ?_ _) | (with_reducible refine Kd.C_drewN ?_ _) | (with_reducible refine Kd.C_drew ?_))); (case side4 => exact HC1.out); rintro e w8 ⟨rfl, hb⟩; refine ⟨_, rfl, ?_⟩; have n0_ := Aside0.mk (below_step BL hb); clear HB; have HB := n0_; clear n0_; (try clear hb); (try clear hb2); (try clear hk); (try clear hi)))
      go_ret
      exact ⟨by first | rfl | (simp [errW_none, errW_some] <;> rfl) | (simp [*, errW_none, errW_some] <;> rfl), BL⟩
    · replace c6 := Bool.eq_false_iff.mpr c6
      subst c6
      have H1 : (some 0) = some r := by rw [if_neg (show ¬ (false = true) by decide)] at H; exact H
      clear H
      have H := H1
      clear H1
      obtain rfl := Option.some.inj H
      go_enter Tryd.func33, Tryd.ntmps33
      go_wp2_with (first | ((with_reducible refine gate_callee (f := 20) rfl ?_); refine goesL_ (some 6) rfl rfl Tryd.func20 (by kernel_rfl) rfl #[.slice A0 l0.length c0] rfl EQ ?_; (with_reducible refine (nat_Right.calls _ _ l0 true _ ?side1 ?side2 A3.out).mono ?_); (case side1 => repeat (first | exact HR0.out | (with_reducible refine Kd.C_alloc ?_ _) | (with_reducible refine Kd.C_drewN ?_ _) | (with_reducible refine Kd.C_drew ?_))); (case side2 => exact HC0.out); rintro e w' ⟨rfl, ⟨nd, rfl⟩⟩; refine ⟨_, rfl, ?_⟩) | (go_at_call 20; (with_reducible refine (nat_Right.calls _ _ l1 false _ ?side1 ?side2 A5.out).mono ?_); (case side1 => repeat (first | exact HR1.out | (with_reducible refine Kd.C_alloc ?_ _) | (with_reducible refine Kd.C_drewN ?_ _) | (with_reducible refine Kd.C_drew ?_))); (case side2 => exact HC1.out); rintro e w' ⟨rfl, ⟨nd, rfl⟩⟩))
      go_ret
      exact ⟨by first | rfl | (simp [errW_none, errW_some] <;> rfl) | (simp [*, errW_none, errW_some] <;> rfl), BL⟩
  · replace c4 := Bool.eq_false_iff.mpr c4
    subst c4
    have H1 : (some 0) = some r := by rw [if_neg (show ¬ (false = true) by decide)] at H; exact H
    clear H
    have H := H1
    clear H1
    obtain rfl := Option.some.inj H
    go_enter Tryd.func33, Tryd.ntmps33
    go_wp2_with (first | ((with_reducible refine gate_callee (f := 20) rfl ?_); refine goesL_ (some 6) rfl rfl Tryd.func20 (by kernel_rfl) rfl #[.slice A0 l0.length c0] rfl EQ ?_; (with_reducible refine (nat_Right.calls _ _ l0 false _ ?side1 ?side2 A3.out).mono ?_); (case side1 => repeat (first | exact HR0.out | (with_reducible refine Kd.C_alloc ?_ _) | (with_reducible refine Kd.C_drewN ?_ _) | (with_reducible refine Kd.C_drew ?_))); (case side2 => exact HC0.out); rintro e w' ⟨rfl, ⟨nd, rfl⟩⟩; refine ⟨_, rfl, ?_⟩))
    go_ret
    exact ⟨by first | rfl | (simp [errW_none, errW_some] <;> rfl) | (simp [*, errW_none, errW_some] <;> rfl), BL⟩

/-! ### nat_Bits: function 36 -/
set_option maxHeartbeats 8000000 in
set_option maxRecDepth 100000 in
theorem nat_Bits.calls (A0 : Option Addr) (c0 : Nat) (l0 : List Int) (r : Int) (w : World) (hr0 : Kd.C (Kd.int .u32) w A0 l0.length l0) (hc0 : l0.length ≤ c0) (h : nat_Bits.f l0 = some r) :
    Calls Tryd.prog 36 #[.slice A0 l0.length c0] w fun e w' => e = .returned (.int .i64 r) ∧ Drawn0 w w' := by
  have HR0 := Aside0.mk hr0
  have HC0 := Aside0.mk hc0
  clear hr0 hc0
  have H : ((nat_Right.f l0).bind fun t300 => (if t300 = true then (if (l0.length : Int) = 0 then (some 0) else (if 0 ≤ (wrap64 ((l0.length : Int) - 1)) then (if (wrap64 ((l0.length : Int) - 1)) < (l0.length : Int) then ((bits_Len32.f (rd l0 (wrap64 ((l0.length : Int) - 1)))).bind fun t302 => (some (wrap64 ((wrap64 (32 * (wrap64 ((l0.length : Int) - 1)))) + t302)))) else (none)) else (none))) else (some 0))) = some r := h
  clear h
  obtain ⟨t300, A2, H⟩ := bind_p H
  by_cases c3 : t300 = true
  · subst c3
    have H1 : (if (l0.length : Int) = 0 then (some 0) else (if 0 ≤ (wrap64 ((l0.length : Int) - 1)) then (if (wrap64 ((l0.length : Int) - 1)) < (l0.length : Int) then ((bits_Len32.f (rd l0 (wrap64 ((l0.length : Int) - 1)))).bind fun t302 => (some (wrap64 ((wrap64 (32 * (wrap64 ((l0.length : Int) - 1)))) + t302)))) else (none)) else (none))) = some r := by rw [if_pos rfl] at H; exact H
    clear H
    have H := H1
    clear H1
    by_cases c4 : (l0.length : Int) = 0
    · rw [if_pos c4] at H
      have c4b0 : ((l0.length : Int) == 0) = true := beq_iff_eq.mpr c4
      have c4b1 : ((l0.length : Int) != 0) = false := bne_eq_false_iff_eq.mpr c4
      clear c4
      obtain rfl := Option.some.inj H
      go_enter Tryd.func36, Tryd.ntmps36
      go_wp2_with (first | ((with_reducible refine gate_callee (f := 20) rfl ?_); refine goesL_ (some 4) rfl rfl Tryd.func20 (by kernel_rfl) rfl #[.slice A0 l0.length c0] rfl EQ ?_; (with_reducible refine (nat_Right.calls _ _ l0 true _ ?side1 ?side2 A2.out).mono ?_); (case side1 => repeat (first | exact HR0.out | (with_reducible refine Kd.C_alloc ?_ _) | (with_reducible refine Kd.C_drewN ?_ _) | (with_reducible refine Kd.C_drew ?_))); (case side2 => exact HC0.out); rintro e w' ⟨rfl, ⟨nd, rfl⟩⟩; refine ⟨_, rfl, ?_⟩))
      go_ret
      exact ⟨by first | rfl | (simp; done) | (simp [*]; done) | (simp; exact isEmpty_bne _), by repeat (first | exact Drawn0.refl _ | apply Drawn0.step)⟩
    · rw [if_neg c4] at H
      have c4b0 : ((l0.length : Int) == 0) = false := beq_eq_false_iff_ne.mpr c4
      have c4b1 : ((l0.length : Int) != 0) = true := bne_iff_ne.mpr c4
      have c4b2 : ¬ (l0 = []) := fun h_ => c4 (by rw [h_]; rfl)
      obtain ⟨ji5, hji5⟩ := let_j (wrap64 ((l0.length : Int) - 1))
      (first | rw [hji5] at H | simp only [hji5] at H ⊢)
      (try rw [hji5] at A2)
      have hji5w : (IntKind.i64.wrap ((l0.length : Int) - 1)) = ji5 := (i64_w _).trans hji5
      obtain ⟨c6, H⟩ := ite_p H
      have c6b0 : decide (0 ≤ (ji5)) = true := decide_eq_true c6
      clear c6
      obtain ⟨c7, H⟩ := ite_p H
      have c7b0 : decide ((ji5) < (l0.length : Int)) = true := decide_eq_true c7
      clear c7
      obtain ⟨t302, A8, H⟩ := bind_p H
      obtain rfl := Option.some.inj H
      go_enter Tryd.func36, Tryd.ntmps36
      go_wp2_with (first | ((with_reducible refine gate_callee (f := 20) rfl ?_); refine goesL_ (some 4) rfl rfl Tryd.func20 (by kernel_rfl) rfl #[.slice A0 l0.length c0] rfl EQ ?_; (with_reducible refine (nat_Right.calls _ _ l0 true _ ?side1 ?side2 A2.out).mono ?_); (case side1 => repeat (first | exact HR0.out | (with_reducible refine Kd.C_alloc ?_ _) | (with_reducible refine Kd.C_drewN ?_ _) | (with_reducible refine Kd.C_drew ?_))); (case side2 => exact HC0.out); rintro e w' ⟨rfl, ⟨nd, rfl⟩⟩; refine ⟨_, rfl, ?_⟩; have p301 : 0 ≤ ((ji5) : Int) := DA; have q301 : (ji5) < (l0.length : Int) := DA; obtain ⟨ad301, e301, hx301_0⟩ := Kd.at_int HR0.out (ji5) p301 q301; cases e301; replace p301 := eq_true p301; replace q301 := eq_true q301) | ((with_reducible refine gate_callee (f := 59) rfl ?_); refine goesL_ (some 21) rfl rfl Tryd.func59 (by kernel_rfl) rfl #[.int .u32 (rd l0 (ji5))] rfl (by (try simp only [List.map_toArray, List.map_cons, List.map_nil]); first | done | (simp only [hji5]; rfl) | rfl | (simp only [List.length_drop, List.length_take]; rfl)) ?_; (with_reducible refine (bits_Len32.calls (rd l0 (ji5)) t302 _ A8.out).mono ?_); rintro e w' ⟨rfl, ⟨nd, rfl⟩⟩; refine ⟨_, rfl, ?_⟩))
      go_ret
      exact ⟨by first | rfl | (simp; done) | (simp only [← hji5] <;> (first | rfl | simp)) | (simp [*]; done), by repeat (first | exact Drawn0.refl _ | apply Drawn0.step)⟩
  · replace c3 := Bool.eq_false_iff.mpr c3
    subst c3
    have H1 : (some 0) = some r := by rw [if_neg (show ¬ (false = true) by decide)] at H; exact H
    clear H
    have H := H1
    clear H1
    obtain rfl := Option.some.inj H
    go_enter Tryd.func36, Tryd.ntmps36
    go_wp2_with (first | ((with_reducible refine gate_callee (f := 20) rfl ?_); refine goesL_ (some 4) rfl rfl Tryd.func20 (by kernel_rfl) rfl #[.slice A0 l0.length c0] rfl EQ ?_; (with_reducible refine (nat_Right.calls _ _ l0 false _ ?side1 ?side2 A2.out).mono ?_); (case side1 => repeat (first | exact HR0.out | (with_reducible refine Kd.C_alloc ?_ _) | (with_reducible refine Kd.C_drewN ?_ _) | (with_reducible refine Kd.C_drew ?_))); (case side2 => exact HC0.out); rintro e w' ⟨rfl, ⟨nd, rfl⟩⟩; refine ⟨_, rfl, ?_⟩))
    go_ret
    exact ⟨by first | rfl | (simp; done) | (simp [*]; done) | (simp; exact isEmpty_bne _), by repeat (first | exact Drawn0.refl _ | apply Drawn0.step)⟩

/-! ### samphirelaw02_awake: function 12 -/
set_option maxHeartbeats 8000000 in
set_option maxRecDepth 100000 in
theorem samphirelaw02_awake.calls (k : Nat)  (r : Bool) (w : World) (h : samphirelaw02_awake.f k  = some r) :
    Calls Tryd.prog 12 #[] w fun e w' => e = .returned (.bool r) ∧ Below w.heap.size w w' := by
  have HB := Aside0.mk (Below.refl w.heap.size w)
  have H : ((nat_Read.f k (⟨#[49, 56, 52, 52, 54, 55, 52, 52, 48, 55, 51, 55, 48, 57, 53, 53, 49, 54, 49, 54]⟩ : ByteArray)).bind fun bt303 => ((nat_Of.f k 10).bind fun t307 => ((nat_Div.f k bt303.1 t307).bind fun bt310 => ((nat_Mul.f k bt303.1 bt303.1).bind fun bt317 => ((nat_Of.f k 12).bind fun t321 => ((nat_Of.f k 18).bind fun t324 => ((nat_Gcd.f k t321 t324).bind fun bt327 => ((nat_Of.f k 1).bind fun t331 => ((nat_Sub.f k ([] : List Int) t331).bind fun bt334 => ((nat_Div.f k bt303.1 ([] : List Int)).bind fun bt338 => (if bt303.2 = 0 then (if (bt303.1.length : Int) = 3 then (if 2 < (bt303.1.length : Int) then (if (rd bt303.1 2) = 1 then (if bt310.2.2 = 0 then ((nat_Text.f k bt310.1).bind fun t346 => (if t346.toList = ([49, 56, 52, 52, 54, 55, 52, 52, 48, 55, 51, 55, 48, 57, 53, 53, 49, 54, 49] : List UInt8) then ((nat_Of.f k 6).bind fun t347 => ((samphireref02_Same.f k bt310.2.1 t347).bind fun t350 => (if t350 = true then (if bt317.2 = 0 then ((nat_Bits.f bt317.1).bind fun t351 => (if t351 = 129 then (if bt327.2 = 0 then ((nat_Text.f k bt327.1).bind fun t352 => (if t352.toList = ([54] : List UInt8) then (if bt334.2 = 1 then (if bt338.2.2 = 7 then ((nat_Cmp.f k bt303.1 bt317.1).bind fun t353 => (some (t353 == (-1)))) else (none)) else (none)) else (none))) else (none)) else (none))) else (none)) else (none)))) else (none))) else (none)) else (none)) else (none)) else (none)) else (none)))))))))))) = some r := h
  clear h
  obtain ⟨⟨t303, t304⟩, A1, H⟩ := bind_p H
  dsimp only at H
  obtain ⟨t307, A2, H⟩ := bind_p H
  obtain ⟨⟨t310, t311, t312⟩, A3, H⟩ := bind_p H
  dsimp only at H
  obtain ⟨⟨t317, t318⟩, A4, H⟩ := bind_p H
  dsimp only at H
  obtain ⟨t321, A5, H⟩ := bind_p H
  obtain ⟨t324, A6, H⟩ := bind_p H
  obtain ⟨⟨t327, t330⟩, A7, H⟩ := bind_p H
  dsimp only at H
  obtain ⟨t331, A8, H⟩ := bind_p H
  obtain ⟨⟨t334, t335⟩, A9, H⟩ := bind_p H
  dsimp only at H
  obtain ⟨⟨t338, t339, t340⟩, A10, H⟩ := bind_p H
  dsimp only at H
  obtain ⟨c11, H⟩ := ite_p H
  have c11b0 : (t304 == 0) = true := beq_iff_eq.mpr c11
  have c11b1 : (t304 != 0) = false := bne_eq_false_iff_eq.mpr c11
  clear c11
  obtain ⟨c12, H⟩ := ite_p H
  have c12b0 : ((t303.length : Int) == 3) = true := beq_iff_eq.mpr c12
  have c12b1 : ((t303.length : Int) != 3) = false := bne_eq_false_iff_eq.mpr c12
  clear c12
  obtain ⟨c13, H⟩ := ite_p H
  have c13b0 : decide (2 < (t303.length : Int)) = true := decide_eq_true c13
  have c13b1 : decide (2 < t303.length) = true := decide_eq_true (by omega)
  clear c13
  obtain ⟨c14, H⟩ := ite_p H
  have c14b0 : ((rd t303 2) == 1) = true := beq_iff_eq.mpr c14
  have c14b1 : ((rd t303 2) != 1) = false := bne_eq_false_iff_eq.mpr c14
  clear c14
  obtain ⟨c15, H⟩ := ite_p H
  have c15b0 : (t312 == 0) = true := beq_iff_eq.mpr c15
  have c15b1 : (t312 != 0) = false := bne_eq_false_iff_eq.mpr c15
  clear c15
  obtain ⟨t346, A16, H⟩ := bind_p H
  obtain ⟨c17, H⟩ := ite_p H
  have c17b0 : (t346.toList == ([49, 56, 52, 52, 54, 55, 52, 52, 48, 55, 51, 55, 48, 57, 53, 53, 49, 54, 49] : List UInt8)) = true := beq_iff_eq.mpr c17
  have c17b1 : (t346.toList != ([49, 56, 52, 52, 54, 55, 52, 52, 48, 55, 51, 55, 48, 57, 53, 53, 49, 54, 49] : List UInt8)) = false := bne_eq_false_iff_eq.mpr c17
  clear c17
  obtain ⟨t347, A18, H⟩ := bind_p H
  obtain ⟨t350, A19, H⟩ := bind_p H
  by_cases c20 : t350 = true
  · subst c20
    have H1 : (if t318 = 0 then ((nat_Bits.f t317).bind fun t351 => (if t351 = 129 then (if t330 = 0 then ((nat_Text.f k t327).bind fun t352 => (if t352.toList = ([54] : List UInt8) then (if t335 = 1 then (if t340 = 7 then ((nat_Cmp.f k t303 t317).bind fun t353 => (some (t353 == (-1)))) else (none)) else (none)) else (none))) else (none)) else (none))) else (none)) = some r := by rw [if_pos rfl] at H; exact H
    clear H
    have H := H1
    clear H1
    obtain ⟨c21, H⟩ := ite_p H
    have c21b0 : (t318 == 0) = true := beq_iff_eq.mpr c21
    have c21b1 : (t318 != 0) = false := bne_eq_false_iff_eq.mpr c21
    clear c21
    obtain ⟨t351, A22, H⟩ := bind_p H
    obtain ⟨c23, H⟩ := ite_p H
    have c23b0 : (t351 == 129) = true := beq_iff_eq.mpr c23
    have c23b1 : (t351 != 129) = false := bne_eq_false_iff_eq.mpr c23
    clear c23
    obtain ⟨c24, H⟩ := ite_p H
    have c24b0 : (t330 == 0) = true := beq_iff_eq.mpr c24
    have c24b1 : (t330 != 0) = false := bne_eq_false_iff_eq.mpr c24
    clear c24
    obtain ⟨t352, A25, H⟩ := bind_p H
    obtain ⟨c26, H⟩ := ite_p H
    have c26b0 : (t352.toList == ([54] : List UInt8)) = true := beq_iff_eq.mpr c26
    have c26b1 : (t352.toList != ([54] : List UInt8)) = false := bne_eq_false_iff_eq.mpr c26
    clear c26
    obtain ⟨c27, H⟩ := ite_p H
    have c27b0 : (t335 == 1) = true := beq_iff_eq.mpr c27
    have c27b1 : (t335 != 1) = false := bne_eq_false_iff_eq.mpr c27
    clear c27
    obtain ⟨c28, H⟩ := ite_p H
    have c28b0 : (t340 == 7) = true := beq_iff_eq.mpr c28
    have c28b1 : (t340 != 7) = false := bne_eq_false_iff_eq.mpr c28
    clear c28
    obtain ⟨t353, A29, H⟩ := bind_p H
    obtain rfl := Option.some.inj H
    go_enter Tryd.func12, Tryd.ntmps12
    go_wp2_with (first | ((with_reducible refine gate_callee (f := 22) rfl ?_); refine goesL_ (some 16) rfl rfl Tryd.func22 (by kernel_rfl) rfl #[.string (⟨#[49, 56, 52, 52, 54, 55, 52, 52, 48, 55, 51, 55, 48, 57, 53, 53, 49, 54, 49, 54]⟩ : ByteArray)] rfl EQ ?_; (with_reducible refine (nat_Read.calls k (⟨#[49, 56, 52, 52, 54, 55, 52, 52, 48, 55, 51, 55, 48, 57, 53, 53, 49, 54, 49, 54]⟩ : ByteArray) t303 t304 _ A1.out).mono ?_); rintro e w30 ⟨v305, rfl, ho0, hb⟩; refine ⟨_, rfl, ?_⟩; have n0_ := Aside0.mk (Kd.R_lower ho0 (below_size BL)); have n1_ := Aside0.mk (below_step BL hb); clear HB; have HO306 := n0_; have HB := n1_; clear n0_ n1_; (try clear hb); (try clear hb2); (try clear hk); (try clear hi); (try clear ho0)) | ((with_reducible refine gate_callee (f := 28) rfl ?_); refine goesL_ (some 21) rfl rfl Tryd.func28 (by kernel_rfl) rfl #[.int .u64 10] rfl EQ ?_; (with_reducible refine (nat_Of.calls k 10 t307 _ A2.out).mono ?_); rintro e w31 ⟨v308, rfl, ho0, hb⟩; refine ⟨_, rfl, ?_⟩; have n0_ := Aside0.mk (Kd.R_elder' (RL HO306) (Kd.R_base ho0) hb); have n1_ := Aside0.mk (Kd.R_lower (Kd.R_new' ho0 (Kd.R_lt (RL HO306))) (below_size BL)); have n2_ := Aside0.mk (below_step BL hb); clear HO306; clear HB; have HO306 := n0_; have HO309 := n1_; have HB := n2_; clear n0_ n1_ n2_; (try clear hb); (try clear hb2); (try clear hk); (try clear hi); (try clear ho0); obtain ⟨Ao32, co32, eo32⟩ := Kd.R_slice HO306.out; subst eo32; obtain ⟨Ao33, co33, eo33⟩ := Kd.R_slice HO309.out; subst eo33) | ((with_reducible refine gate_callee (f := 13) rfl ?_); refine goesL_ (some 22) rfl rfl Tryd.func13 (by kernel_rfl) rfl #[.slice Ao32 t303.length co32, .slice Ao33 t307.length co33] rfl EQ ?_; (with_reducible refine (nat_Div.calls k _ _ t303 _ _ t307 t310 t311 t312 _ ?side1 ?side2 ?side3 ?side4 A3.out).mono ?_); (case side1 => exact RR HO306); (case side2 => exact (Kd.R_reads' HO306.out).2.1); (case side3 => exact RR HO309); (case side4 => exact (Kd.R_reads' HO309.out).2.1); rintro e w34 ⟨v313, v315, rfl, ho0, ho1, hb⟩; refine ⟨_, rfl, ?_⟩; have n0_ := Aside0.mk (Kd.R_mono (Kd.R_told (Kd.R_told (Kd.R_old (RL HO306) hb) (Kd.R_base ho0)) (Kd.R_base ho1)) (fun _ h_ => h_.1)); have n1_ := Aside0.mk (Kd.R_mono (Kd.R_told (Kd.R_told (Kd.R_old (RL HO309) hb) (Kd.R_base ho0)) (Kd.R_base ho1)) (fun _ h_ => h_.1)); have n2_ := Aside0.mk (Kd.R_lower (Kd.R_new' (Kd.R_new' ho0 (Kd.R_lt (RL HO306))) (Kd.R_lt (RL HO309))) (below_size BL)); have n3_ := Aside0.mk (Kd.R_lower (Kd.R_new' (Kd.R_new' ho1 (Kd.R_lt (RL HO306))) (Kd.R_lt (RL HO309))) (below_size BL)); have n4_ := Aside0.mk (below_step BL hb); clear HO306; clear HO309; clear HB; have HO306 := n0_; have HO309 := n1_; have HO314 := n2_; have HO316 := n3_; have HB := n4_; clear n0_ n1_ n2_ n3_ n4_; (try clear hb); (try clear hb2); (try clear hk); (try clear hi); (try clear ho0); (try clear ho1)) | ((with_reducible refine gate_callee (f := 31) rfl ?_); refine goesL_ (some 29) rfl rfl Tryd.func31 (by kernel_rfl) rfl #[.slice Ao32 t303.length co32, .slice Ao32 t303.length co32] rfl EQ ?_; (with_reducible refine (nat_Mul.calls k _ _ t303 _ _ t303 t317 t318 _ ?side1 ?side2 ?side3 ?side4 A4.out).mono ?_); (case side1 => exact RR HO306); (case side2 => exact (Kd.R_reads' HO306.out).2.1); (case side3 => exact RR HO306); (case side4 => exact (Kd.R_reads' HO306.out).2.1); rintro e w35 ⟨v319, rfl, ho0, hb⟩; refine ⟨_, rfl, ?_⟩; have n0_ := Aside0.mk (Kd.R_elder' (RL HO306) (Kd.R_base ho0) hb); have n1_ := Aside0.mk (Kd.R_elder' (RL HO309) (Kd.R_base ho0) hb); have n2_ := Aside0.mk (Kd.R_elder' (RL HO314) (Kd.R_base ho0) hb); have n3_ := Aside0.mk (Kd.R_elder' (RL HO316) (Kd.R_base ho0) hb); have n4_ := Aside0.mk (Kd.R_lower (Kd.R_new' (Kd.R_new' (Kd.R_new' (Kd.R_new' ho0 (Kd.R_lt (RL HO306))) (Kd.R_lt (RL HO309))) (Kd.R_lt (RL HO314))) (Kd.R_lt (RL HO316))) (below_size BL)); have n5_ := Aside0.mk (below_step BL hb); clear HO306; clear HO309; clear HO314; clear HO316; clear HB; have HO306 := n0_; have HO309 := n1_; have HO314 := n2_; have HO316 := n3_; have HO320 := n4_; have HB := n5_; clear n0_ n1_ n2_ n3_ n4_ n5_; (try clear hb); (try clear hb2); (try clear hk); (try clear hi); (try clear ho0)) | ((with_reducible refine gate_callee (f := 28) rfl ?_); refine goesL_ (some 33) rfl rfl Tryd.func28 (by kernel_rfl) rfl #[.int .u64 12] rfl EQ ?_; (with_reducible refine (nat_Of.calls k 12 t321 _ A5.out).mono ?_); rintro e w36 ⟨v322, rfl, ho0, hb⟩; refine ⟨_, rfl, ?_⟩; have n0_ := Aside0.mk (Kd.R_elder' (RL HO306) (Kd.R_base ho0) hb); have n1_ := Aside0.mk (Kd.R_elder' (RL HO309) (Kd.R_base ho0) hb); have n2_ := Aside0.mk (Kd.R_elder' (RL HO314) (Kd.R_base ho0) hb); have n3_ := Aside0.mk (Kd.R_elder' (RL HO316) (Kd.R_base ho0) hb); have n4_ := Aside0.mk (Kd.R_elder' (RL HO320) (Kd.R_base ho0) hb); have n5_ := Aside0.mk (Kd.R_lower (Kd.R_new' (Kd.R_new' (Kd.R_new' (Kd.R_new' (Kd.R_new' ho0 (Kd.R_lt (RL HO306))) (Kd.R_lt (RL HO309))) (Kd.R_lt (RL HO314))) (Kd.R_lt (RL HO316))) (Kd.R_lt (RL HO320))) (below_size BL)); have n6_ := Aside0.mk (below_step BL hb); clear HO306; clear HO309; clear HO314; clear HO316; clear HO320; clear HB; have HO306 := n0_; have HO309 := n1_; have HO314 := n2_; have HO316 := n3_; have HO320 := n4_; have HO323 := n5_; have HB := n6_; clear n0_ n1_ n2_ n3_ n4_ n5_ n6_; (try clear hb); (try clear hb2); (try clear hk); (try clear hi); (try clear ho0)) | ((with_reducible refine gate_callee (f := 28) rfl ?_); refine goesL_ (some 34) rfl rfl Tryd.func28 (by kernel_rfl) rfl #[.int .u64 18] rfl EQ ?_; (with_reducible refine (nat_Of.calls k 18 t324 _ A6.out).mono ?_); rintro e w37 ⟨v325, rfl, ho0, hb⟩; refine ⟨_, rfl, ?_⟩; have n0_ := Aside0.mk (Kd.R_elder' (RL HO306) (Kd.R_base ho0) hb); have n1_ := Aside0.mk (Kd.R_elder' (RL HO309) (Kd.R_base ho0) hb); have n2_ := Aside0.mk (Kd.R_elder' (RL HO314) (Kd.R_base ho0) hb); have n3_ := Aside0.mk (Kd.R_elder' (RL HO316) (Kd.R_base ho0) hb); have n4_ := Aside0.mk (Kd.R_elder' (RL HO320) (Kd.R_base ho0) hb); have n5_ := Aside0.mk (Kd.R_elder' (RL HO323) (Kd.R_base ho0) hb); have n6_ := Aside0.mk (Kd.R_lower (Kd.R_new' (Kd.R_new' (Kd.R_new' (Kd.R_new' (Kd.R_new' (Kd.R_new' ho0 (Kd.R_lt (RL HO306))) (Kd.R_lt (RL HO309))) (Kd.R_lt (RL HO314))) (Kd.R_lt (RL HO316))) (Kd.R_lt (RL HO320))) (Kd.R_lt (RL HO323))) (below_size BL)); have n7_ := Aside0.mk (below_step BL hb); clear HO306; clear HO309; clear HO314; clear HO316; clear HO320; clear HO323; clear HB; have HO306 := n0_; have HO309 := n1_; have HO314 := n2_; have HO316 := n3_; have HO320 := n4_; have HO323 := n5_; have HO326 := n6_; have HB := n7_; clear n0_ n1_ n2_ n3_ n4_ n5_ n6_ n7_; (try clear hb); (try clear hb2); (try clear hk); (try clear hi); (try clear ho0); obtain ⟨Ao38, co38, eo38⟩ := Kd.R_slice HO323.out; subst eo38; obtain ⟨Ao39, co39, eo39⟩ := Kd.R_slice HO326.out; subst eo39) | ((with_reducible refine gate_callee (f := 14) rfl ?_); refine goesL_ (some 35) rfl rfl Tryd.func14 (by kernel_rfl) rfl #[.slice Ao38 t321.length co38, .slice Ao39 t324.length co39] rfl EQ ?_; (with_reducible refine (nat_Gcd.calls k (fun k_ => some k_ = (.slice Ao38 t321.length co38 : Value).ownBlock) _ _ t321 (fun k_ => some k_ = (.slice Ao39 t324.length co39 : Value).ownBlock) _ _ t324 t327 t330 _ ?side1 ?side2 A7.out).mono ?_); (case side1 => exact Kd.R_V (Kd.R_tight rfl (HO323.out))); (case side2 => exact Kd.R_V (Kd.R_tight rfl (HO326.out))); rintro e w40 ⟨v328, rfl, ho0, hb⟩; refine ⟨_, rfl, ?_⟩; have n0_ := Aside0.mk (Kd.R_elder' (RL HO306) (Kd.R_base ho0) hb); have n1_ := Aside0.mk (Kd.R_elder' (RL HO309) (Kd.R_base ho0) hb); have n2_ := Aside0.mk (Kd.R_elder' (RL HO314) (Kd.R_base ho0) hb); have n3_ := Aside0.mk (Kd.R_elder' (RL HO316) (Kd.R_base ho0) hb); have n4_ := Aside0.mk (Kd.R_elder' (RL HO320) (Kd.R_base ho0) hb); have n5_ := Aside0.mk (Kd.R_elder' (RL HO323) (Kd.R_base ho0) hb); have n6_ := Aside0.mk (Kd.R_elder' (RL HO326) (Kd.R_base ho0) hb); have n7_ := Aside0.mk (Kd.R_lower (Kd.R_new' (Kd.R_new' (Kd.R_new' (Kd.R_new' (Kd.R_new' (Kd.R_new' (Kd.R_new' (Kd.R_mono (ok' := fun k_ => True) ho0 (fun _ hk_ => trivial)) (Kd.R_lt (RL HO306))) (Kd.R_lt (RL HO309))) (Kd.R_lt (RL HO314))) (Kd.R_lt (RL HO316))) (Kd.R_lt (RL HO320))) (Kd.R_lt (RL HO323))) (Kd.R_lt (RL HO326))) (below_size BL)); have n8_ := Aside0.mk (below_step BL hb); clear HO306; clear HO309; clear HO314; clear HO316; clear HO320; clear HO323; clear HO326; clear HB; have HO306 := n0_; have HO309 := n1_; have HO314 := n2_; have HO316 := n3_; have HO320 := n4_; have HO323 := n5_; have HO326 := n6_; have HO329 := n7_; have HB := n8_; clear n0_ n1_ n2_ n3_ n4_ n5_ n6_ n7_ n8_; (try clear hb); (try clear hb2); (try clear hk); (try clear hi); (try clear ho0)) | ((with_reducible refine gate_callee (f := 28) rfl ?_); refine goesL_ (some 39) rfl rfl Tryd.func28 (by kernel_rfl) rfl #[.int .u64 1] rfl EQ ?_; (with_reducible refine (nat_Of.calls k 1 t331 _ A8.out).mono ?_); rintro e w41 ⟨v332, rfl, ho0, hb⟩; refine ⟨_, rfl, ?_⟩; have n0_ := Aside0.mk (Kd.R_elder' (RL HO306) (Kd.R_base ho0) hb); have n1_ := Aside0.mk (Kd.R_elder' (RL HO309) (Kd.R_base ho0) hb); have n2_ := Aside0.mk (Kd.R_elder' (RL HO314) (Kd.R_base ho0) hb); have n3_ := Aside0.mk (Kd.R_elder' (RL HO316) (Kd.R_base ho0) hb); have n4_ := Aside0.mk (Kd.R_elder' (RL HO320) (Kd.R_base ho0) hb); have n5_ := Aside0.mk (Kd.R_elder' (RL HO323) (Kd.R_base ho0) hb); have n6_ := Aside0.mk (Kd.R_elder' (RL HO326) (Kd.R_base ho0) hb); have n7_ := Aside0.mk (Kd.R_elder' (RL HO329) (Kd.R_base ho0) hb); have n8_ := Aside0.mk (Kd.R_lower (Kd.R_new' (Kd.R_new' (Kd.R_new' (Kd.R_new' (Kd.R_new' (Kd.R_new' (Kd.R_new' (Kd.R_new' ho0 (Kd.R_lt (RL HO306))) (Kd.R_lt (RL HO309))) (Kd.R_lt (RL HO314))) (Kd.R_lt (RL HO316))) (Kd.R_lt (RL HO320))) (Kd.R_lt (RL HO323))) (Kd.R_lt (RL HO326))) (Kd.R_lt (RL HO329))) (below_size BL)); have n9_ := Aside0.mk (below_step BL hb); clear HO306; clear HO309; clear HO314; clear HO316; clear HO320; clear HO323; clear HO326; clear HO329; clear HB; have HO306 := n0_; have HO309 := n1_; have HO314 := n2_; have HO316 := n3_; have HO320 := n4_; have HO323 := n5_; have HO326 := n6_; have HO329 := n7_; have HO333 := n8_; have HB := n9_; clear n0_ n1_ n2_ n3_ n4_ n5_ n6_ n7_ n8_ n9_; (try clear hb); (try clear hb2); (try clear hk); (try clear hi); (try clear ho0); obtain ⟨Ao42, co42, eo42⟩ := Kd.R_slice HO333.out; subst eo42) | ((with_reducible refine gate_callee (f := 32) rfl ?_); refine goesL_ (some 40) rfl rfl Tryd.func32 (by kernel_rfl) rfl #[.slice none 0 0, .slice Ao42 t331.length co42] rfl EQ ?_; (refine (nat_Sub.calls k _ _ ([] : List Int) _ _ t331 t334 t335 _ ?side1 ?side2 ?side3 ?side4 A9.out).mono ?_); (case side1 => exact Kd.C_nil _ _); (case side2 => exact Nat.le_refl _); (case side3 => exact RR HO333); (case side4 => exact (Kd.R_reads' HO333.out).2.1); rintro e w43 ⟨v336, rfl, ho0, hb⟩; refine ⟨_, rfl, ?_⟩; have n0_ := Aside0.mk (Kd.R_elder' (RL HO306) (Kd.R_base ho0) hb); have n1_ := Aside0.mk (Kd.R_elder' (RL HO309) (Kd.R_base ho0) hb); have n2_ := Aside0.mk (Kd.R_elder' (RL HO314) (Kd.R_base ho0) hb); have n3_ := Aside0.mk (Kd.R_elder' (RL HO316) (Kd.R_base ho0) hb); have n4_ := Aside0.mk (Kd.R_elder' (RL HO320) (Kd.R_base ho0) hb); have n5_ := Aside0.mk (Kd.R_elder' (RL HO323) (Kd.R_base ho0) hb); have n6_ := Aside0.mk (Kd.R_elder' (RL HO326) (Kd.R_base ho0) hb); have n7_ := Aside0.mk (Kd.R_elder' (RL HO329) (Kd.R_base ho0) hb); have n8_ := Aside0.mk (Kd.R_elder' (RL HO333) (Kd.R_base ho0) hb); have n9_ := Aside0.mk (Kd.R_lower (Kd.R_new' (Kd.R_new' (Kd.R_new' (Kd.R_new' (Kd.R_new' (Kd.R_new' (Kd.R_new' (Kd.R_new' (Kd.R_new' ho0 (Kd.R_lt (RL HO306))) (Kd.R_lt (RL HO309))) (Kd.R_lt (RL HO314))) (Kd.R_lt (RL HO316))) (Kd.R_lt (RL HO320))) (Kd.R_lt (RL HO323))) (Kd.R_lt (RL HO326))) (Kd.R_lt (RL HO329))) (Kd.R_lt (RL HO333))) (below_size BL)); have n10_ := Aside0.mk (below_step BL hb); clear HO306; clear HO309; clear HO314; clear HO316; clear HO320; clear HO323; clear HO326; clear HO329; clear HO333; clear HB; have HO306 := n0_; have HO309 := n1_; have HO314 := n2_; have HO316 := n3_; have HO320 := n4_; have HO323 := n5_; have HO326 := n6_; have HO329 := n7_; have HO333 := n8_; have HO337 := n9_; have HB := n10_; clear n0_ n1_ n2_ n3_ n4_ n5_ n6_ n7_ n8_ n9_ n10_; (try clear hb); (try clear hb2); (try clear hk); (try clear hi); (try clear ho0)) | ((with_reducible refine gate_callee (f := 13) rfl ?_); refine goesL_ (some 45) rfl rfl Tryd.func13 (by kernel_rfl) rfl #[.slice Ao32 t303.length co32, .slice none 0 0] rfl EQ ?_; (refine (nat_Div.calls k _ _ t303 _ _ ([] : List Int) t338 t339 t340 _ ?side1 ?side2 ?side3 ?side4 A10.out).mono ?_); (case side1 => exact RR HO306); (case side2 => exact (Kd.R_reads' HO306.out).2.1); (case side3 => exact Kd.C_nil _ _); (case side4 => exact Nat.le_refl _); rintro e w44 ⟨v341, v343, rfl, ho0, ho1, hb⟩; refine ⟨_, rfl, ?_⟩; have n0_ := Aside0.mk (Kd.R_mono (Kd.R_told (Kd.R_told (Kd.R_old (RL HO306) hb) (Kd.R_base ho0)) (Kd.R_base ho1)) (fun _ h_ => h_.1)); have n1_ := Aside0.mk (Kd.R_mono (Kd.R_told (Kd.R_told (Kd.R_old (RL HO309) hb) (Kd.R_base ho0)) (Kd.R_base ho1)) (fun _ h_ => h_.1)); have n2_ := Aside0.mk (Kd.R_mono (Kd.R_told (Kd.R_told (Kd.R_old (RL HO314) hb) (Kd.R_base ho0)) (Kd.R_base ho1)) (fun _ h_ => h_.1)); have n3_ := Aside0.mk (Kd.R_mono (Kd.R_told (Kd.R_told (Kd.R_old (RL HO316) hb) (Kd.R_base ho0)) (Kd.R_base ho1)) (fun _ h_ => h_.1)); have n4_ := Aside0.mk (Kd.R_mono (Kd.R_told (Kd.R_told (Kd.R_old (RL HO320) hb) (Kd.R_base ho0)) (Kd.R_base ho1)) (fun _ h_ => h_.1)); have n5_ := Aside0.mk (Kd.R_mono (Kd.R_told (Kd.R_told (Kd.R_old (RL HO323) hb) (Kd.R_base ho0)) (Kd.R_base ho1)) (fun _ h_ => h_.1)); have n6_ := Aside0.mk (Kd.R_mono (Kd.R_told (Kd.R_told (Kd.R_old (RL HO326) hb) (Kd.R_base ho0)) (Kd.R_base ho1)) (fun _ h_ => h_.1)); have n7_ := Aside0.mk (Kd.R_mono (Kd.R_told (Kd.R_told (Kd.R_old (RL HO329) hb) (Kd.R_base ho0)) (Kd.R_base ho1)) (fun _ h_ => h_.1)); have n8_ := Aside0.mk (Kd.R_mono (Kd.R_told (Kd.R_told (Kd.R_old (RL HO333) hb) (Kd.R_base ho0)) (Kd.R_base ho1)) (fun _ h_ => h_.1)); have n9_ := Aside0.mk (Kd.R_mono (Kd.R_told (Kd.R_told (Kd.R_old (RL HO337) hb) (Kd.R_base ho0)) (Kd.R_base ho1)) (fun _ h_ => h_.1)); have n10_ := Aside0.mk (Kd.R_lower (Kd.R_new' (Kd.R_new' (Kd.R_new' (Kd.R_new' (Kd.R_new' (Kd.R_new' (Kd.R_new' (Kd.R_new' (Kd.R_new' (Kd.R_new' ho0 (Kd.R_lt (RL HO306))) (Kd.R_lt (RL HO309))) (Kd.R_lt (RL HO314))) (Kd.R_lt (RL HO316))) (Kd.R_lt (RL HO320))) (Kd.R_lt (RL HO323))) (Kd.R_lt (RL HO326))) (Kd.R_lt (RL HO329))) (Kd.R_lt (RL HO333))) (Kd.R_lt (RL HO337))) (below_size BL)); have n11_ := Aside0.mk (Kd.R_lower (Kd.R_new' (Kd.R_new' (Kd.R_new' (Kd.R_new' (Kd.R_new' (Kd.R_new' (Kd.R_new' (Kd.R_new' (Kd.R_new' (Kd.R_new' ho1 (Kd.R_lt (RL HO306))) (Kd.R_lt (RL HO309))) (Kd.R_lt (RL HO314))) (Kd.R_lt (RL HO316))) (Kd.R_lt (RL HO320))) (Kd.R_lt (RL HO323))) (Kd.R_lt (RL HO326))) (Kd.R_lt (RL HO329))) (Kd.R_lt (RL HO333))) (Kd.R_lt (RL HO337))) (below_size BL)); have n12_ := Aside0.mk (below_step BL hb); clear HO306; clear HO309; clear HO314; clear HO316; clear HO320; clear HO323; clear HO326; clear HO329; clear HO333; clear HO337; clear HB; have HO306 := n0_; have HO309 := n1_; have HO314 := n2_; have HO316 := n3_; have HO320 := n4_; have HO323 := n5_; have HO326 := n6_; have HO329 := n7_; have HO333 := n8_; have HO337 := n9_; have HO342 := n10_; have HO344 := n11_; have HB := n12_; clear n0_ n1_ n2_ n3_ n4_ n5_ n6_ n7_ n8_ n9_ n10_ n11_ n12_; (try clear hb); (try clear hb2); (try clear hk); (try clear hi); (try clear ho0); (try clear ho1); have p345 : 0 ≤ (2 : Int) := (by omega); have q345 : 2 < (t303.length : Int) := DA; obtain ⟨ad345, e345, hx345_0⟩ := Kd.at_int (Kd.R_reads' HO306.out).2.2 2 p345 q345; cases e345; (try simp only [show (2 : Int).toNat = 2 from rfl, Nat.reduceMul, Nat.reduceEqDiff, Go.Addr.add, ↓reduceIte] at hx345_0); have qi345 : (2 < t303.length) = True := eq_true (by omega); (try rw [show ((2 : Int)).toNat = 2 from rfl] at hx345_0); replace p345 := eq_true p345; replace q345 := eq_true q345; obtain ⟨Ao45, co45, eo45⟩ := Kd.R_slice HO314.out; subst eo45) | (go_at_call 27; (with_reducible refine (nat_Text.calls k (fun k_ => some k_ = (.slice Ao45 t310.length co45 : Value).ownBlock) _ _ t310 t346 _ ?side1 A16.out).mono ?_); (case side1 => exact Kd.R_V (Kd.R_tight rfl (HO314.out))); rintro e w46 ⟨rfl, hb⟩; have n0_ := Aside0.mk (Kd.R_below (RL HO306) hb); have n1_ := Aside0.mk (Kd.R_below (RL HO309) hb); have n2_ := Aside0.mk (Kd.R_below (RL HO314) hb); have n3_ := Aside0.mk (Kd.R_below (RL HO316) hb); have n4_ := Aside0.mk (Kd.R_below (RL HO320) hb); have n5_ := Aside0.mk (Kd.R_below (RL HO323) hb); have n6_ := Aside0.mk (Kd.R_below (RL HO326) hb); have n7_ := Aside0.mk (Kd.R_below (RL HO329) hb); have n8_ := Aside0.mk (Kd.R_below (RL HO333) hb); have n9_ := Aside0.mk (Kd.R_below (RL HO337) hb); have n10_ := Aside0.mk (Kd.R_below (RL HO342) hb); have n11_ := Aside0.mk (Kd.R_below (RL HO344) hb); have n12_ := Aside0.mk (below_step BL hb); clear HO306; clear HO309; clear HO314; clear HO316; clear HO320; clear HO323; clear HO326; clear HO329; clear HO333; clear HO337; clear HO342; clear HO344; clear HB; have HO306 := n0_; have HO309 := n1_; have HO314 := n2_; have HO316 := n3_; have HO320 := n4_; have HO323 := n5_; have HO326 := n6_; have HO329 := n7_; have HO333 := n8_; have HO337 := n9_; have HO342 := n10_; have HO344 := n11_; have HB := n12_; clear n0_ n1_ n2_ n3_ n4_ n5_ n6_ n7_ n8_ n9_ n10_ n11_ n12_; (try clear hb); (try clear hb2); (try clear hk); (try clear hi)) | (go_at_call 28; (with_reducible refine (nat_Of.calls k 6 t347 _ A18.out).mono ?_); rintro e w47 ⟨v348, rfl, ho0, hb⟩; have n0_ := Aside0.mk (Kd.R_elder' (RL HO306) (Kd.R_base ho0) hb); have n1_ := Aside0.mk (Kd.R_elder' (RL HO309) (Kd.R_base ho0) hb); have n2_ := Aside0.mk (Kd.R_elder' (RL HO314) (Kd.R_base ho0) hb); have n3_ := Aside0.mk (Kd.R_elder' (RL HO316) (Kd.R_base ho0) hb); have n4_ := Aside0.mk (Kd.R_elder' (RL HO320) (Kd.R_base ho0) hb); have n5_ := Aside0.mk (Kd.R_elder' (RL HO323) (Kd.R_base ho0) hb); have n6_ := Aside0.mk (Kd.R_elder' (RL HO326) (Kd.R_base ho0) hb); have n7_ := Aside0.mk (Kd.R_elder' (RL HO329) (Kd.R_base ho0) hb); have n8_ := Aside0.mk (Kd.R_elder' (RL HO333) (Kd.R_base ho0) hb); have n9_ := Aside0.mk (Kd.R_elder' (RL HO337) (Kd.R_base ho0) hb); have n10_ := Aside0.mk (Kd.R_elder' (RL HO342) (Kd.R_base ho0) hb); have n11_ := Aside0.mk (Kd.R_elder' (RL HO344) (Kd.R_base ho0) hb); have n12_ := Aside0.mk (Kd.R_lower (Kd.R_new' (Kd.R_new' (Kd.R_new' (Kd.R_new' (Kd.R_new' (Kd.R_new' (Kd.R_new' (Kd.R_new' (Kd.R_new' (Kd.R_new' (Kd.R_new' (Kd.R_new' ho0 (Kd.R_lt (RL HO306))) (Kd.R_lt (RL HO309))) (Kd.R_lt (RL HO314))) (Kd.R_lt (RL HO316))) (Kd.R_lt (RL HO320))) (Kd.R_lt (RL HO323))) (Kd.R_lt (RL HO326))) (Kd.R_lt (RL HO329))) (Kd.R_lt (RL HO333))) (Kd.R_lt (RL HO337))) (Kd.R_lt (RL HO342))) (Kd.R_lt (RL HO344))) (below_size BL)); have n13_ := Aside0.mk (below_step BL hb); clear HO306; clear HO309; clear HO314; clear HO316; clear HO320; clear HO323; clear HO326; clear HO329; clear HO333; clear HO337; clear HO342; clear HO344; clear HB; have HO306 := n0_; have HO309 := n1_; have HO314 := n2_; have HO316 := n3_; have HO320 := n4_; have HO323 := n5_; have HO326 := n6_; have HO329 := n7_; have HO333 := n8_; have HO337 := n9_; have HO342 := n10_; have HO344 := n11_; have HO349 := n12_; have HB := n13_; clear n0_ n1_ n2_ n3_ n4_ n5_ n6_ n7_ n8_ n9_ n10_ n11_ n12_ n13_; (try clear hb); (try clear hb2); (try clear hk); (try clear hi); (try clear ho0); obtain ⟨Ao48, co48, eo48⟩ := Kd.R_slice HO316.out; subst eo48; obtain ⟨Ao49, co49, eo49⟩ := Kd.R_slice HO349.out; subst eo49) | (go_at_call 19; (with_reducible refine (samphireref02_Same.calls k _ _ t311 _ _ t347 true _ ?side1 ?side2 ?side3 ?side4 A19.out).mono ?_); (case side1 => exact RR HO316); (case side2 => exact (Kd.R_reads' HO316.out).2.1); (case side3 => exact RR HO349); (case side4 => exact (Kd.R_reads' HO349.out).2.1); rintro e w' ⟨rfl, ⟨nd, rfl⟩⟩; obtain ⟨Ao50, co50, eo50⟩ := Kd.R_slice HO320.out; subst eo50) | (go_at_call 36; (with_reducible refine (nat_Bits.calls _ _ t317 t351 _ ?side1 ?side2 A22.out).mono ?_); (case side1 => exact RR HO320); (case side2 => exact (Kd.R_reads' HO320.out).2.1); rintro e w' ⟨rfl, ⟨nd, rfl⟩⟩; obtain ⟨Ao51, co51, eo51⟩ := Kd.R_slice HO329.out; subst eo51) | (go_at_call 27; (with_reducible refine (nat_Text.calls k (fun k_ => some k_ = (.slice Ao51 t327.length co51 : Value).ownBlock) _ _ t327 t352 _ ?side1 A25.out).mono ?_); (case side1 => exact Kd.R_V (Kd.R_tight rfl (HO329.out))); rintro e w52 ⟨rfl, hb⟩; have n0_ := Aside0.mk (Kd.R_below (RL HO306) hb); have n1_ := Aside0.mk (Kd.R_below (RL HO309) hb); have n2_ := Aside0.mk (Kd.R_below (RL HO314) hb); have n3_ := Aside0.mk (Kd.R_below (RL HO316) hb); have n4_ := Aside0.mk (Kd.R_below (RL HO320) hb); have n5_ := Aside0.mk (Kd.R_below (RL HO323) hb); have n6_ := Aside0.mk (Kd.R_below (RL HO326) hb); have n7_ := Aside0.mk (Kd.R_below (RL HO329) hb); have n8_ := Aside0.mk (Kd.R_below (RL HO333) hb); have n9_ := Aside0.mk (Kd.R_below (RL HO337) hb); have n10_ := Aside0.mk (Kd.R_below (RL HO342) hb); have n11_ := Aside0.mk (Kd.R_below (RL HO344) hb); have n12_ := Aside0.mk (Kd.R_below (RL HO349) hb); have n13_ := Aside0.mk (below_step BL hb); clear HO306; clear HO309; clear HO314; clear HO316; clear HO320; clear HO323; clear HO326; clear HO329; clear HO333; clear HO337; clear HO342; clear HO344; clear HO349; clear HB; have HO306 := n0_; have HO309 := n1_; have HO314 := n2_; have HO316 := n3_; have HO320 := n4_; have HO323 := n5_; have HO326 := n6_; have HO329 := n7_; have HO333 := n8_; have HO337 := n9_; have HO342 := n10_; have HO344 := n11_; have HO349 := n12_; have HB := n13_; clear n0_ n1_ n2_ n3_ n4_ n5_ n6_ n7_ n8_ n9_ n10_ n11_ n12_ n13_; (try clear hb); (try clear hb2); (try clear hk); (try clear hi)) | (go_at_call 33; (with_reducible refine (nat_Cmp.calls k _ _ t303 _ _ t317 t353 _ ?side1 ?side2 ?side3 ?side4 A29.out).mono ?_); (case side1 => exact RR HO306); (case side2 => exact (Kd.R_reads' HO306.out).2.1); (case side3 => exact RR HO320); (case side4 => exact (Kd.R_reads' HO320.out).2.1); rintro e w53 ⟨rfl, hb⟩; have n0_ := Aside0.mk (Kd.R_below (RL HO306) hb); have n1_ := Aside0.mk (Kd.R_below (RL HO309) hb); have n2_ := Aside0.mk (Kd.R_below (RL HO314) hb); have n3_ := Aside0.mk (Kd.R_below (RL HO316) hb); have n4_ := Aside0.mk (Kd.R_below (RL HO320) hb); have n5_ := Aside0.mk (Kd.R_below (RL HO323) hb); have n6_ := Aside0.mk (Kd.R_below (RL HO326) hb); have n7_ := Aside0.mk (Kd.R_below (RL HO329) hb); have n8_ := Aside0.mk (Kd.R_below (RL HO333) hb); have n9_ := Aside0.mk (Kd.R_below (RL HO337) hb); have n10_ := Aside0.mk (Kd.R_below (RL HO342) hb); have n11_ := Aside0.mk (Kd.R_below (RL HO344) hb); have n12_ := Aside0.mk (Kd.R_below (RL HO349) hb); have n13_ := Aside0.mk (below_step BL hb); clear HO306; clear HO309; clear HO314; clear HO316; clear HO320; clear HO323; clear HO326; clear HO329; clear HO333; clear HO337; clear HO342; clear HO344; clear HO349; clear HB; have HO306 := n0_; have HO309 := n1_; have HO314 := n2_; have HO316 := n3_; have HO320 := n4_; have HO323 := n5_; have HO326 := n6_; have HO329 := n7_; have HO333 := n8_; have HO337 := n9_; have HO342 := n10_; have HO344 := n11_; have HO349 := n12_; have HB := n13_; clear n0_ n1_ n2_ n3_ n4_ n5_ n6_ n7_ n8_ n9_ n10_ n11_ n12_ n13_; (try clear hb); (try clear hb2); (try clear hk); (try clear hi)))
    go_ret
    exact ⟨by first | rfl | (simp [errW_none, errW_some] <;> rfl) | (simp [*, errW_none, errW_some] <;> rfl), BL⟩
  · replace c20 := Bool.eq_false_iff.mpr c20
    subst c20
    have H1 : (none) = some r := by rw [if_neg (show ¬ (false = true) by decide)] at H; exact H
    clear H
    have H := H1
    clear H1
    cases H

/-! ### samphireref02_Right: function 15 -/
set_option maxHeartbeats 8000000 in
set_option maxRecDepth 100000 in
theorem samphireref02_Right.calls (A0 : Option Addr) (c0 : Nat) (l0 : List Int) (r : Bool) (w : World) (hr0 : Kd.C (Kd.int .u32) w A0 l0.length l0) (hc0 : l0.length ≤ c0) (h : samphireref02_Right.f l0 = some r) :
    Calls Tryd.prog 15 #[.slice A0 l0.length c0] w fun e w' => e = .returned (.bool r) ∧ Drawn0 w w' := by
  have HR0 := Aside0.mk hr0
  have HC0 := Aside0.mk hc0
  clear hr0 hc0
  have H : (if (l0.length : Int) > 64 then (some false) else (if (l0.length : Int) = 0 then (some true) else (if 0 ≤ (wrap64 ((l0.length : Int) - 1)) then (if (wrap64 ((l0.length : Int) - 1)) < (l0.length : Int) then (some (decide ((rd l0 (wrap64 ((l0.length : Int) - 1))) > 0))) else (none)) else (none)))) = some r := h
  clear h
  by_cases c2 : (l0.length : Int) > 64
  · rw [if_pos c2] at H
    have c2b0 : decide (64 < (l0.length : Int)) = true := decide_eq_true c2
    have c2b1 : decide (64 < l0.length) = true := decide_eq_true (by omega)
    clear c2
    obtain rfl := Option.some.inj H
    go_enter Tryd.func15, Tryd.ntmps15
    go_wp2
    go_ret
    exact ⟨by first | rfl | (simp; done) | (simp [*]; done) | (simp; exact isEmpty_bne _), by repeat (first | exact Drawn0.refl _ | apply Drawn0.step)⟩
  · rw [if_neg c2] at H
    have c2b0 : decide (64 < (l0.length : Int)) = false := decide_eq_false c2
    have c2b1 : decide (64 < l0.length) = false := decide_eq_false (by omega)
    clear c2
    by_cases c3 : (l0.length : Int) = 0
    · rw [if_pos c3] at H
      have c3b0 : ((l0.length : Int) == 0) = true := beq_iff_eq.mpr c3
      have c3b1 : ((l0.length : Int) != 0) = false := bne_eq_false_iff_eq.mpr c3
      clear c3
      obtain rfl := Option.some.inj H
      go_enter Tryd.func15, Tryd.ntmps15
      go_wp2
      go_ret
      exact ⟨by first | rfl | (simp; done) | (simp [*]; done) | (simp; exact isEmpty_bne _), by repeat (first | exact Drawn0.refl _ | apply Drawn0.step)⟩
    · rw [if_neg c3] at H
      have c3b0 : ((l0.length : Int) == 0) = false := beq_eq_false_iff_ne.mpr c3
      have c3b1 : ((l0.length : Int) != 0) = true := bne_iff_ne.mpr c3
      have c3b2 : ¬ (l0 = []) := fun h_ => c3 (by rw [h_]; rfl)
      obtain ⟨ji4, hji4⟩ := let_j (wrap64 ((l0.length : Int) - 1))
      (first | rw [hji4] at H | simp only [hji4] at H ⊢)
      have hji4w : (IntKind.i64.wrap ((l0.length : Int) - 1)) = ji4 := (i64_w _).trans hji4
      obtain ⟨c5, H⟩ := ite_p H
      have c5b0 : decide (0 ≤ (ji4)) = true := decide_eq_true c5
      clear c5
      obtain ⟨c6, H⟩ := ite_p H
      have c6b0 : decide ((ji4) < (l0.length : Int)) = true := decide_eq_true c6
      clear c6
      obtain rfl := Option.some.inj H
      have p354 : 0 ≤ ((ji4) : Int) := DA
      have q354 : (ji4) < (l0.length : Int) := DA
      obtain ⟨ad354, e354, hx354_0⟩ := Kd.at_int HR0.out (ji4) p354 q354
      cases e354
      replace p354 := eq_true p354
      replace q354 := eq_true q354
      go_enter Tryd.func15, Tryd.ntmps15
      go_wp2
      go_ret
      exact ⟨by first | rfl | (simp; done) | (simp only [← hji4] <;> (first | rfl | simp)) | (simp [*]; done), by repeat (first | exact Drawn0.refl _ | apply Drawn0.step)⟩

/-! ### samphireref02_Half: function 47 -/
set_option maxHeartbeats 8000000 in
set_option maxRecDepth 100000 in
theorem samphireref02_Half.calls (k : Nat) (A0 : Option Addr) (c0 : Nat) (l0 : List Int) (a1 : Int) (r : List Int) (w : World) (hr0 : Kd.C (Kd.int .u32) w A0 l0.length l0) (hc0 : l0.length ≤ c0) (h : samphireref02_Half.f k l0 a1 = some r) :
    Calls Tryd.prog 47 #[.slice A0 l0.length c0, .int .i64 a1] w fun e w' => ∃ v0_ : Value, e = .returned (v0_) ∧ Kd.R (Kd.int .u64) 37 w' w.heap.size (fun _ => True) v0_ r ∧ Below w.heap.size w w' := by
  have HR0 := Aside0.mk hr0
  have HC0 := Aside0.mk hc0
  clear hr0 hc0
  have HB := Aside0.mk (Below.refl w.heap.size w)
  have H : (samphireref02_Half.l0 k l0 a1 ([] : List Int) 0) = some r := h
  clear h
  have H' := Aside0.mk H
  clear H
  go_enter Tryd.func47, Tryd.ntmps47
  go_wp2
  go_loopg [5, 6] k (fun kq v5 v6 w' => ∃ (x5_1 : List Int) (x6_1 : Int), v6 = .int .i64 x6_1 ∧ Aside0 (samphireref02_Half.l0 kq l0 a1 x5_1 x6_1 = some r) ∧ Aside0 (kq ≤ k) ∧ Aside0 (Kd.R (Kd.int .u64) 37 w' w.heap.size (fun _ => True) v5 x5_1) ∧ Aside0 (Below w.heap.size w w'))
  case atStart => exact ⟨(([] : List Int)), (0), (by first | rfl | (simp; done) | (simp [*]; done) | (simp; exact isEmpty_bne _)), H', ⟨Nat.le_refl _⟩, ⟨by first | exact Kd.R_nil _ _ _ _ _ | exact Kd.N_nil _ _ _ _ _ | exact Kd.V_nil _ _ _ _ _ | exact Kd.Q_nil _ _ _ _ _ | exact Kd.S_nil _ _ _ _ _⟩, ⟨BL⟩⟩
  case round =>
    clear H'
    try clear p2
    obtain ⟨x5_1, x6_1, rfl, HA, HK1, HO_5, HB⟩ := hrel
    cases gk with
    | zero => exact absurd HA.out (by simp [samphireref02_Half.l0])
    | succ k1 =>
      have H := HA.out
      clear HA
      simp only [samphireref02_Half.l0] at H
      by_cases c3 : x6_1 < a1
      · rw [if_pos c3] at H
        have c3b0 : decide (x6_1 < a1) = true := decide_eq_true c3
        clear c3
        by_cases c4 : (wrap64 (Int.tdiv x6_1 2)) < (l0.length : Int)
        · rw [if_pos c4] at H
          have c4b0 : decide ((wrap64 (Int.tdiv x6_1 2)) < (l0.length : Int)) = true := decide_eq_true c4
          clear c4
          obtain ⟨ji5, hji5⟩ := let_j (wrap64 (Int.tdiv x6_1 2))
          (first | rw [hji5] at H | simp only [hji5] at H ⊢)
          (try rw [hji5] at c4b0)
          have hji5w : (IntKind.i64.wrap (Int.tdiv x6_1 2)) = ji5 := (i64_w _).trans hji5
          obtain ⟨c6, H⟩ := ite_p H
          have c6b0 : decide (0 ≤ (ji5)) = true := decide_eq_true c6
          clear c6
          by_cases c7 : (Int.tmod x6_1 2) = 0
          · rw [if_pos c7] at H
            have c7b0 : ((Int.tmod x6_1 2) == 0) = true := beq_iff_eq.mpr c7
            have c7b1 : ((Int.tmod x6_1 2) != 0) = false := bne_eq_false_iff_eq.mpr c7
            clear c7
            obtain ⟨c8, H⟩ := ite_p H
            have LMc8 := Aside0.mk c8
            clear c8
            obtain ⟨y356, Ny356⟩ := let_p (x5_1 ++ [Int.tmod (IntKind.u64.wrap (rd l0 (ji5))) 65536] : List Int)
            (first | rw [← Ny356.out] at H | simp only [← Ny356.out] at H)
            have H' := Aside0.mk H
            clear H
            have p355 : 0 ≤ ((ji5) : Int) := DA
            have q355 : (ji5) < (l0.length : Int) := DA
            obtain ⟨ad355, e355, hx355_0⟩ := Kd.at_int HR0.out (ji5) p355 q355
            cases e355
            replace hx355_0 := (HB.out.cell (World.block_lt_of_cell? w _ hx355_0)).trans hx355_0
            replace p355 := eq_true p355
            replace q355 := eq_true q355
            go_wp2_with (first | ((with_reducible refine gate_builtin (b := .append) (xs := #[.tmp 27, .tmp 30]) rfl ?_); at_builtin; refine Kd.R_append (Kd.int .u64) (w0 := w) w.heap.size rfl (.tmp 27) (.tmp 30) 57 37 (.int .u64 0) 8 rfl Tryd.underlying57 info37 rfl (by decide) (by omega) u5 x5_1 (Int.tmod (IntKind.u64.wrap (rd l0 (ji5))) 65536) [.int .u64 (Int.tmod (IntKind.u64.wrap (rd l0 (ji5))) 65536)] (fun _ => True) (fun _ => False) rfl rfl ?aP (fun _ hk => hk.elim) ?aF ?aO ?aB ?aS ?aL ?_; (case aP => exact rfl); (case aB => exact BL); (case aF => exact (fun _ _ => trivial)); (case aO => exact (RL HO_5)); (case aS => exact (below_size BL)); (case aL => have := LMc8.out; omega); intro v357 w9 ho hb hg hat; rw [← Ny356.out] at ho; have n0_ := Aside0.mk (hb); have n1_ := Aside0.mk (ho); clear HB; clear HO_5; have HB := n0_; have HO358 := n1_; clear n0_ n1_; clear ho hb hg hat))
            go_roundg k1
            case measure => have := HK1.out; omega
            case rel => exact ⟨(y356), (wrap64 (x6_1 + 1)), (by first | rfl | (simp; done) | (simp [*]; done) | (simp; exact isEmpty_bne _)), H', ⟨by have := HK1.out; omega⟩, ⟨by (with_reducible repeat (first | apply Kd.R_alloc | apply Kd.R_drewN | apply Kd.R_drew)); exact HO358.out⟩, ⟨BL⟩⟩
          · rw [if_neg c7] at H
            have c7b0 : ((Int.tmod x6_1 2) == 0) = false := beq_eq_false_iff_ne.mpr c7
            have c7b1 : ((Int.tmod x6_1 2) != 0) = true := bne_iff_ne.mpr c7
            obtain ⟨c10, H⟩ := ite_p H
            have LMc10 := Aside0.mk c10
            clear c10
            obtain ⟨y359, Ny359⟩ := let_p (x5_1 ++ [IntKind.u64.wrap (Int.tdiv (IntKind.u64.wrap (rd l0 (ji5))) 65536)] : List Int)
            (first | rw [← Ny359.out] at H | simp only [← Ny359.out] at H)
            have H' := Aside0.mk H
            clear H
            have p355 : 0 ≤ ((ji5) : Int) := DA
            have q355 : (ji5) < (l0.length : Int) := DA
            obtain ⟨ad355, e355, hx355_0⟩ := Kd.at_int HR0.out (ji5) p355 q355
            cases e355
            replace hx355_0 := (HB.out.cell (World.block_lt_of_cell? w _ hx355_0)).trans hx355_0
            replace p355 := eq_true p355
            replace q355 := eq_true q355
            go_wp2_with (first | ((with_reducible refine gate_builtin (b := .append) (xs := #[.tmp 32, .tmp 35]) rfl ?_); at_builtin; refine Kd.R_append (Kd.int .u64) (w0 := w) w.heap.size rfl (.tmp 32) (.tmp 35) 57 37 (.int .u64 0) 8 rfl Tryd.underlying57 info37 rfl (by decide) (by omega) u5 x5_1 (IntKind.u64.wrap (Int.tdiv (IntKind.u64.wrap (rd l0 (ji5))) 65536)) [.int .u64 (IntKind.u64.wrap (Int.tdiv (IntKind.u64.wrap (rd l0 (ji5))) 65536))] (fun _ => True) (fun _ => False) rfl rfl ?aP (fun _ hk => hk.elim) ?aF ?aO ?aB ?aS ?aL ?_; (case aP => exact rfl); (case aB => exact BL); (case aF => exact (fun _ _ => trivial)); (case aO => exact (RL HO_5)); (case aS => exact (below_size BL)); (case aL => have := LMc10.out; omega); intro v360 w11 ho hb hg hat; rw [← Ny359.out] at ho; have n0_ := Aside0.mk (hb); have n1_ := Aside0.mk (ho); clear HB; clear HO_5; have HB := n0_; have HO361 := n1_; clear n0_ n1_; clear ho hb hg hat))
            go_roundg k1
            case measure => have := HK1.out; omega
            case rel => exact ⟨(y359), (wrap64 (x6_1 + 1)), (by first | rfl | (simp; done) | (simp [*]; done) | (simp; exact isEmpty_bne _)), H', ⟨by have := HK1.out; omega⟩, ⟨by (with_reducible repeat (first | apply Kd.R_alloc | apply Kd.R_drewN | apply Kd.R_drew)); exact HO361.out⟩, ⟨BL⟩⟩
        · rw [if_neg c4] at H
          have c4b0 : decide ((wrap64 (Int.tdiv x6_1 2)) < (l0.length : Int)) = false := decide_eq_false c4
          clear c4
          by_cases c12 : (Int.tmod x6_1 2) = 0
          · rw [if_pos c12] at H
            have c12b0 : ((Int.tmod x6_1 2) == 0) = true := beq_iff_eq.mpr c12
            have c12b1 : ((Int.tmod x6_1 2) != 0) = false := bne_eq_false_iff_eq.mpr c12
            clear c12
            obtain ⟨c13, H⟩ := ite_p H
            have LMc13 := Aside0.mk c13
            clear c13
            obtain ⟨y362, Ny362⟩ := let_p (x5_1 ++ [0] : List Int)
            (first | rw [← Ny362.out] at H | simp only [← Ny362.out] at H)
            have H' := Aside0.mk H
            clear H
            go_wp2_with (first | ((with_reducible refine gate_builtin (b := .append) (xs := #[.tmp 27, .tmp 30]) rfl ?_); at_builtin; refine Kd.R_append (Kd.int .u64) (w0 := w) w.heap.size rfl (.tmp 27) (.tmp 30) 57 37 (.int .u64 0) 8 rfl Tryd.underlying57 info37 rfl (by decide) (by omega) u5 x5_1 0 [.int .u64 0] (fun _ => True) (fun _ => False) rfl rfl ?aP (fun _ hk => hk.elim) ?aF ?aO ?aB ?aS ?aL ?_; (case aP => exact rfl); (case aB => exact BL); (case aF => exact (fun _ _ => trivial)); (case aO => exact (RL HO_5)); (case aS => exact (below_size BL)); (case aL => have := LMc13.out; omega); intro v363 w14 ho hb hg hat; rw [← Ny362.out] at ho; have n0_ := Aside0.mk (hb); have n1_ := Aside0.mk (ho); clear HB; clear HO_5; have HB := n0_; have HO364 := n1_; clear n0_ n1_; clear ho hb hg hat))
            go_roundg k1
            case measure => have := HK1.out; omega
            case rel => exact ⟨(y362), (wrap64 (x6_1 + 1)), (by first | rfl | (simp; done) | (simp [*]; done) | (simp; exact isEmpty_bne _)), H', ⟨by have := HK1.out; omega⟩, ⟨by (with_reducible repeat (first | apply Kd.R_alloc | apply Kd.R_drewN | apply Kd.R_drew)); exact HO364.out⟩, ⟨BL⟩⟩
          · rw [if_neg c12] at H
            have c12b0 : ((Int.tmod x6_1 2) == 0) = false := beq_eq_false_iff_ne.mpr c12
            have c12b1 : ((Int.tmod x6_1 2) != 0) = true := bne_iff_ne.mpr c12
            obtain ⟨c15, H⟩ := ite_p H
            have LMc15 := Aside0.mk c15
            clear c15
            obtain ⟨y365, Ny365⟩ := let_p (x5_1 ++ [0] : List Int)
            (first | rw [← Ny365.out] at H | simp only [← Ny365.out] at H)
            have H' := Aside0.mk H
            clear H
            go_wp2_with (first | ((with_reducible refine gate_builtin (b := .append) (xs := #[.tmp 32, .tmp 35]) rfl ?_); at_builtin; refine Kd.R_append (Kd.int .u64) (w0 := w) w.heap.size rfl (.tmp 32) (.tmp 35) 57 37 (.int .u64 0) 8 rfl Tryd.underlying57 info37 rfl (by decide) (by omega) u5 x5_1 0 [.int .u64 0] (fun _ => True) (fun _ => False) rfl rfl ?aP (fun _ hk => hk.elim) ?aF ?aO ?aB ?aS ?aL ?_; (case aP => exact rfl); (case aB => exact BL); (case aF => exact (fun _ _ => trivial)); (case aO => exact (RL HO_5)); (case aS => exact (below_size BL)); (case aL => have := LMc15.out; omega); intro v366 w16 ho hb hg hat; rw [← Ny365.out] at ho; have n0_ := Aside0.mk (hb); have n1_ := Aside0.mk (ho); clear HB; clear HO_5; have HB := n0_; have HO367 := n1_; clear n0_ n1_; clear ho hb hg hat))
            go_roundg k1
            case measure => have := HK1.out; omega
            case rel => exact ⟨(y365), (wrap64 (x6_1 + 1)), (by first | rfl | (simp; done) | (simp [*]; done) | (simp; exact isEmpty_bne _)), H', ⟨by have := HK1.out; omega⟩, ⟨by (with_reducible repeat (first | apply Kd.R_alloc | apply Kd.R_drewN | apply Kd.R_drew)); exact HO367.out⟩, ⟨BL⟩⟩
      · rw [if_neg c3] at H
        have c3b0 : decide (x6_1 < a1) = false := decide_eq_false c3
        clear c3
        obtain rfl := Option.some.inj H
        go_wp2
        go_ret
        exact ⟨_, by first | rfl | (simp [errW_none, errW_some] <;> rfl) | (simp [*, errW_none, errW_some] <;> rfl), by (with_reducible repeat (first | apply Kd.R_alloc | apply Kd.R_drewN | apply Kd.R_drew)); exact HO_5.out, BL⟩

end Go.Proofs.YtdgbeejhccogpaaDoor.T
