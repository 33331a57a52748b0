-- Printed by this session's own program out of the translation.
import Derived.Test.YtdgbeejhccogpaaDoorTx0
import Derived.Test.YtdgbeejhccogpaaDoorTx1
import Derived.Test.YtdgbeejhccogpaaDoorTx3
namespace Go.Proofs.YtdgbeejhccogpaaDoor.T
open Go.RowKit Go.Proofs.YtdgbeejhccogpaaDoorW.PrintWords Go.Proofs.YtdgbeejhccogpaaDoorW.PrintLast Go.Proofs.YtdgbeejhccogpaaDoorW.PrintMore
attribute [local go_sem] max2_int min2_int max_two min_two max_three min_three max_four min_four   -- for this text's walks alone
set_option linter.unusedVariables false
set_option linter.unusedSimpArgs false

/-! ### samphireref02_Whole: function 48 -/
set_option maxHeartbeats 8000000 in
set_option maxRecDepth 100000 in
theorem samphireref02_Whole.calls (k : Nat) (A0 : Option Addr) (c0 : Nat) (l0 : List Int) (r : List Int) (w : World) (hr0 : Kd.C (Kd.int .u64) w A0 l0.length l0) (hc0 : l0.length ≤ c0) (h : samphireref02_Whole.f k l0 = some r) :
    Calls Tryd.prog 48 #[.slice A0 l0.length c0] w fun e w' => ∃ v0_ : Value, e = .returned (v0_) ∧ Kd.R (Kd.int .u32) 36 w' w.heap.size (fun _ => True) v0_ r ∧ Below w.heap.size w w' := by
  have HR0 := Aside0.mk hr0
  have HC0 := Aside0.mk hc0
  clear hr0 hc0
  have HB := Aside0.mk (Below.refl w.heap.size w)
  have H : (samphireref02_Whole.l0 k l0 ([] : List Int) 0) = some r := h
  clear h
  have H' := Aside0.mk H
  clear H
  go_enter Tryd.func48, Tryd.ntmps48
  go_wp2
  go_loopg [3, 4] k (fun kq v3 v4 w' => ∃ (x3_1 : List Int) (x4_1 : Int), v4 = .int .i64 x4_1 ∧ Aside0 (samphireref02_Whole.l0 kq l0 x3_1 x4_1 = some r) ∧ Aside0 (kq ≤ k) ∧ Aside0 (Kd.R (Kd.int .u32) 36 w' w.heap.size (fun _ => True) v3 x3_1) ∧ Aside0 (Below w.heap.size w w'))
  case atStart => exact ⟨(([] : List Int)), (0), (by first | rfl | (simp; done) | (simp [*]; done) | (simp; exact isEmpty_bne _)), H', ⟨Nat.le_refl _⟩, ⟨by first | exact Kd.R_nil _ _ _ _ _ | exact Kd.N_nil _ _ _ _ _ | exact Kd.V_nil _ _ _ _ _ | exact Kd.Q_nil _ _ _ _ _ | exact Kd.S_nil _ _ _ _ _⟩, ⟨BL⟩⟩
  case round =>
    clear H'
    obtain ⟨x3_1, x4_1, rfl, HA, HK1, HO_3, HB⟩ := hrel
    cases gk with
    | zero => exact absurd HA.out (by simp [samphireref02_Whole.l0])
    | succ k1 =>
      have H := HA.out
      clear HA
      simp only [samphireref02_Whole.l0] at H
      by_cases c2 : x4_1 < (l0.length : Int)
      · rw [if_pos c2] at H
        have c2b0 : decide (x4_1 < (l0.length : Int)) = true := decide_eq_true c2
        clear c2
        obtain ⟨c3, H⟩ := ite_p H
        have c3b0 : decide (0 ≤ x4_1) = true := decide_eq_true c3
        clear c3
        by_cases c4 : (wrap64 (x4_1 + 1)) < (l0.length : Int)
        · rw [if_pos c4] at H
          have c4b0 : decide ((wrap64 (x4_1 + 1)) < (l0.length : Int)) = true := decide_eq_true c4
          clear c4
          obtain ⟨ji5, hji5⟩ := let_j (wrap64 (x4_1 + 1))
          (first | rw [hji5] at H | simp only [hji5] at H ⊢)
          (try rw [hji5] at c4b0)
          have hji5w : (IntKind.i64.wrap (x4_1 + 1)) = ji5 := (i64_w _).trans hji5
          obtain ⟨c6, H⟩ := ite_p H
          have c6b0 : decide (0 ≤ (ji5)) = true := decide_eq_true c6
          clear c6
          obtain ⟨c7, H⟩ := ite_p H
          have LMc7 := Aside0.mk c7
          clear c7
          obtain ⟨y370, Ny370⟩ := let_p (x3_1 ++ [(IntKind.u64.wrap ((rd l0 x4_1) + (IntKind.u64.wrap (65536 * (rd l0 (ji5)))))) % 4294967296] : List Int)
          (first | rw [← Ny370.out] at H | simp only [← Ny370.out] at H)
          have H' := Aside0.mk H
          clear H
          have p368 : 0 ≤ (x4_1 : Int) := DA
          have q368 : x4_1 < (l0.length : Int) := DA
          obtain ⟨ad368, e368, hx368_0⟩ := Kd.at_int HR0.out x4_1 p368 q368
          cases e368
          replace hx368_0 := (HB.out.cell (World.block_lt_of_cell? w _ hx368_0)).trans hx368_0
          replace p368 := eq_true p368
          replace q368 := eq_true q368
          have p369 : 0 ≤ ((ji5) : Int) := DA
          have q369 : (ji5) < (l0.length : Int) := DA
          obtain ⟨ad369, e369, hx369_0⟩ := Kd.at_int HR0.out (ji5) p369 q369
          obtain rfl : ad368 = ad369 := (by injection e369)
          replace hx369_0 := (HB.out.cell (World.block_lt_of_cell? w _ hx369_0)).trans hx369_0
          replace p369 := eq_true p369
          replace q369 := eq_true q369
          go_wp2_with (first | ((with_reducible refine gate_builtin (b := .append) (xs := #[.tmp 29, .tmp 32]) rfl ?_); (try (refine gate_guard (by rfl) ?_; dsimp only)); at_builtin; refine Kd.R_append (Kd.int .u32) (w0 := w) w.heap.size rfl (.tmp 29) (.tmp 32) 23 36 (.int .u32 0) 4 rfl Tryd.underlying23 info36 rfl (by decide) (by omega) u3 x3_1 ((IntKind.u64.wrap ((rd l0 x4_1) + (IntKind.u64.wrap (65536 * (rd l0 (ji5)))))) % 4294967296) [.int .u32 ((IntKind.u64.wrap ((rd l0 x4_1) + (IntKind.u64.wrap (65536 * (rd l0 (ji5)))))) % 4294967296)] (fun _ => True) (fun _ => False) rfl rfl ?aP (fun _ hk => hk.elim) ?aF ?aO ?aB ?aS ?aL ?_; (case aP => exact rfl); (case aB => exact BL); (case aF => exact (fun _ _ => trivial)); (case aO => exact (RL HO_3)); (case aS => exact (below_size BL)); (case aL => have := LMc7.out; omega); intro v371 w8 ho hb hg hat; rw [← Ny370.out] at ho; have n0_ := Aside0.mk (hb); have n1_ := Aside0.mk (ho); clear HB; clear HO_3; have HB := n0_; have HO372 := n1_; clear n0_ n1_; clear ho hb hg hat))
          go_roundg k1
          case measure => have := HK1.out; omega
          case rel => exact ⟨(y370), (wrap64 (x4_1 + 2)), (by first | rfl | (simp; done) | (simp [*]; done) | (simp; exact isEmpty_bne _)), H', ⟨by have := HK1.out; omega⟩, ⟨by (with_reducible repeat (first | apply Kd.R_alloc | apply Kd.R_drewN | apply Kd.R_drew)); exact HO372.out⟩, ⟨BL⟩⟩
        · rw [if_neg c4] at H
          have c4b0 : decide ((wrap64 (x4_1 + 1)) < (l0.length : Int)) = false := decide_eq_false c4
          clear c4
          obtain ⟨c9, H⟩ := ite_p H
          have LMc9 := Aside0.mk c9
          clear c9
          obtain ⟨y373, Ny373⟩ := let_p (x3_1 ++ [(rd l0 x4_1) % 4294967296] : List Int)
          (first | rw [← Ny373.out] at H | simp only [← Ny373.out] at H)
          have H' := Aside0.mk H
          clear H
          have p368 : 0 ≤ (x4_1 : Int) := DA
          have q368 : x4_1 < (l0.length : Int) := DA
          obtain ⟨ad368, e368, hx368_0⟩ := Kd.at_int HR0.out x4_1 p368 q368
          cases e368
          replace hx368_0 := (HB.out.cell (World.block_lt_of_cell? w _ hx368_0)).trans hx368_0
          replace p368 := eq_true p368
          replace q368 := eq_true q368
          go_wp2_with (first | ((with_reducible refine gate_builtin (b := .append) (xs := #[.tmp 29, .tmp 32]) rfl ?_); (try (refine gate_guard (by rfl) ?_; dsimp only)); at_builtin; refine Kd.R_append (Kd.int .u32) (w0 := w) w.heap.size rfl (.tmp 29) (.tmp 32) 23 36 (.int .u32 0) 4 rfl Tryd.underlying23 info36 rfl (by decide) (by omega) u3 x3_1 ((rd l0 x4_1) % 4294967296) [.int .u32 ((rd l0 x4_1) % 4294967296)] (fun _ => True) (fun _ => False) rfl rfl ?aP (fun _ hk => hk.elim) ?aF ?aO ?aB ?aS ?aL ?_; (case aP => exact rfl); (case aB => exact BL); (case aF => exact (fun _ _ => trivial)); (case aO => exact (RL HO_3)); (case aS => exact (below_size BL)); (case aL => have := LMc9.out; omega); intro v374 w10 ho hb hg hat; rw [← Ny373.out] at ho; have n0_ := Aside0.mk (hb); have n1_ := Aside0.mk (ho); clear HB; clear HO_3; have HB := n0_; have HO375 := n1_; clear n0_ n1_; clear ho hb hg hat))
          go_roundg k1
          case measure => have := HK1.out; omega
          case rel => exact ⟨(y373), (wrap64 (x4_1 + 2)), (by first | rfl | (simp; done) | (simp [*]; done) | (simp; exact isEmpty_bne _)), H', ⟨by have := HK1.out; omega⟩, ⟨by (with_reducible repeat (first | apply Kd.R_alloc | apply Kd.R_drewN | apply Kd.R_drew)); exact HO375.out⟩, ⟨BL⟩⟩
      · rw [if_neg c2] at H
        have c2b0 : decide (x4_1 < (l0.length : Int)) = false := decide_eq_false c2
        clear c2
        have H' := Aside0.mk H
        clear H
        go_wp2
        go_loopg [3] k1 (fun kq v3 w' => ∃ (x3_2 : List Int), Aside0 (samphireref02_Whole.l1 kq x3_2 = some r) ∧ Aside0 (kq ≤ k1) ∧ Aside0 (Kd.R (Kd.int .u32) 36 w' w.heap.size (fun _ => True) v3 x3_2) ∧ Aside0 (Below w.heap.size w w'))
        case atStart => exact ⟨(x3_1), H', ⟨Nat.le_refl _⟩, ⟨by (with_reducible repeat (first | apply Kd.R_alloc | apply Kd.R_drewN | apply Kd.R_drew)); exact HO_3.out⟩, ⟨BL⟩⟩
        case round =>
          clear H'
          try clear c2
          try clear c2b0
          try clear p2
          try clear c3
          try clear c3b0
          try clear p3
          try clear q3
          try clear hx3
          try clear c4
          try clear c4b0
          try clear c6
          try clear c6b0
          try clear p6
          try clear c7
          try clear c9
          try clear hx368_0
          try clear hx369_0
          try clear p368
          try clear p369
          try clear q368
          try clear q369
          obtain ⟨x3_2, HA, HK2, HO_3, HB⟩ := hrel
          cases gk with
          | zero => exact absurd HA.out (by simp [samphireref02_Whole.l1])
          | succ k2 =>
            have H := HA.out
            clear HA
            simp only [samphireref02_Whole.l1] at H
            by_cases c11 : (x3_2.length : Int) > 0
            · rw [if_pos c11] at H
              have c11b0 : decide (0 < (x3_2.length : Int)) = true := decide_eq_true c11
              have c11b1 : decide (0 < x3_2.length) = true := decide_eq_true (by omega)
              clear c11
              obtain ⟨ji12, hji12⟩ := let_j (wrap64 ((x3_2.length : Int) - 1))
              (first | rw [hji12] at H | simp only [hji12] at H ⊢)
              have hji12w : (IntKind.i64.wrap ((x3_2.length : Int) - 1)) = ji12 := (i64_w _).trans hji12
              obtain ⟨c13, H⟩ := ite_p H
              have c13b0 : decide (0 ≤ (ji12)) = true := decide_eq_true c13
              clear c13
              obtain ⟨c14, H⟩ := ite_p H
              have c14b0 : decide ((ji12) < (x3_2.length : Int)) = true := decide_eq_true c14
              clear c14
              by_cases c15 : (rd x3_2 (ji12)) = 0
              · rw [if_pos c15] at H
                have c15b0 : ((rd x3_2 (ji12)) == 0) = true := beq_iff_eq.mpr c15
                have c15b1 : ((rd x3_2 (ji12)) != 0) = false := bne_eq_false_iff_eq.mpr c15
                clear c15
                obtain ⟨c16, H⟩ := ite_p H
                have c16b0 := eq_true c16
                have c16b1 : decide ((ji12) ≤ (x3_2.length : Int)) = true := decide_eq_true c16
                clear c16
                obtain ⟨y377, Ny377⟩ := let_p (x3_2.take ((ji12) : Int).toNat : List Int)
                (first | rw [← Ny377.out] at H | simp only [← Ny377.out] at H)
                have H' := Aside0.mk H
                clear H
                obtain ⟨Ao17, co17, eo17⟩ := Kd.R_slice HO_3.out
                subst eo17
                have p376 : 0 ≤ ((ji12) : Int) := DA
                have q376 : (ji12) < (x3_2.length : Int) := DA
                obtain ⟨ad376, e376, hx376_0⟩ := Kd.at_int (Kd.R_reads' HO_3.out).2.2 (ji12) p376 q376
                cases e376
                replace p376 := eq_true p376
                replace q376 := eq_true q376
                have q18 : ((ji12) : Int) ≤ ((x3_2.length : Int) : Int) := DA
                obtain ⟨i018, hi018, _, hsz18, _⟩ := info_parts info36
                have hcut18 := cut_to (P := Tryd.prog) 23 36 .i64 Tryd.underlying23 hi018 (some ad376) x3_2.length co17 (ji12) (DA) q18 (Kd.R_reads' HO_3.out).2.1
                have hr18 := Kd.R_take (m := ((ji12) : Int).toNat) HO_3.out (by omega)
                have hy18 : y377.length = ((ji12) : Int).toNat := (by rw [Ny377.out, List.length_take]; omega)
                rw [← Ny377.out] at hr18
                rw [← hy18] at hr18 hcut18
                clear hy18 hi018 hsz18 HO_3
                have HO379 := Aside0.mk hr18
                clear hr18
                replace q18 := eq_true q18
                go_wp2
                go_roundg k2
                case measure => have := HK1.out; have := HK2.out; omega
                case rel => exact ⟨(y377), H', ⟨by have := HK1.out; have := HK2.out; omega⟩, ⟨by (with_reducible repeat (first | apply Kd.R_alloc | apply Kd.R_drewN | apply Kd.R_drew)); exact HO379.out⟩, ⟨BL⟩⟩
              · rw [if_neg c15] at H
                have c15b0 : ((rd x3_2 (ji12)) == 0) = false := beq_eq_false_iff_ne.mpr c15
                have c15b1 : ((rd x3_2 (ji12)) != 0) = true := bne_iff_ne.mpr c15
                obtain rfl := Option.some.inj H
                obtain ⟨Ao19, co19, eo19⟩ := Kd.R_slice HO_3.out
                subst eo19
                have p376 : 0 ≤ ((ji12) : Int) := DA
                have q376 : (ji12) < (x3_2.length : Int) := DA
                obtain ⟨ad376, e376, hx376_0⟩ := Kd.at_int (Kd.R_reads' HO_3.out).2.2 (ji12) p376 q376
                cases e376
                replace p376 := eq_true p376
                replace q376 := eq_true q376
                go_wp2
                go_ret
                exact ⟨_, by first | rfl | (simp [errW_none, errW_some] <;> rfl) | (simp only [← hji12]; first | rfl | (simp [errW_none, errW_some] <;> rfl)) | (simp [*, errW_none, errW_some] <;> rfl), by (with_reducible repeat (first | apply Kd.R_alloc | apply Kd.R_drewN | apply Kd.R_drew)); exact HO_3.out, BL⟩
            · rw [if_neg c11] at H
              have c11b0 : decide (0 < (x3_2.length : Int)) = false := decide_eq_false c11
              have c11b1 : decide (0 < x3_2.length) = false := decide_eq_false (by omega)
              clear c11
              obtain rfl := Option.some.inj H
              obtain ⟨Ao20, co20, eo20⟩ := Kd.R_slice HO_3.out
              subst eo20
              go_wp2
              go_ret
              exact ⟨_, by first | rfl | (simp [errW_none, errW_some] <;> rfl) | (simp [*, errW_none, errW_some] <;> rfl), by (with_reducible repeat (first | apply Kd.R_alloc | apply Kd.R_drewN | apply Kd.R_drew)); exact HO_3.out, BL⟩

/-! ### samphireref02_Text: function 21 -/
set_option maxHeartbeats 8000000 in
set_option maxRecDepth 100000 in
theorem samphireref02_Text.calls (k : Nat) (P0_ : Nat → Prop) (A0 : Option Addr) (c0 : Nat) (l0 : List Int) (r : ByteArray) (w : World) (hs0 : Kd.V (Kd.int .u32) 36 w w.heap.size (fun k_ => P0_ k_) (.slice A0 l0.length c0) l0) (h : samphireref02_Text.f k l0 = some r) :
    Calls Tryd.prog 21 #[.slice A0 l0.length c0] w fun e w' => e = .returned (.string r) ∧ Below w.heap.size w w' := by
  have HO0 := Aside0.mk (show Kd.V (Kd.int .u32) 36 w w.heap.size (fun k_ => (P0_ k_ ∨ w.heap.size ≤ k_)) (.slice A0 l0.length c0) l0 from Kd.V_mono hs0 (fun k_ hk => .inl hk))
  have HB := Aside0.mk (Below.refl w.heap.size w)
  have H : (samphireref02_Text.l0 k l0 (⟨#[]⟩ : ByteArray)) = some r := h
  clear h
  have H' := Aside0.mk H
  clear H
  go_enter Tryd.func21, Tryd.ntmps21
  go_wp2
  go_loopg [0, 3] k (fun kq v0 v3 w' => ∃ (x0_1 : List Int) (x3_1 : ByteArray), v3 = .string x3_1 ∧ Aside0 (samphireref02_Text.l0 kq x0_1 x3_1 = some r) ∧ Aside0 (kq ≤ k) ∧ Aside0 (Kd.V (Kd.int .u32) 36 w' w.heap.size (fun k_ => (P0_ k_ ∨ w.heap.size ≤ k_)) v0 x0_1) ∧ Aside0 (Below w.heap.size w w'))
  case atStart => exact ⟨(l0), ((⟨#[]⟩ : ByteArray)), (by first | rfl | (simp; done) | (simp [*]; done) | (simp; exact isEmpty_bne _)), H', ⟨Nat.le_refl _⟩, ⟨by (with_reducible repeat (first | apply Kd.V_alloc | apply Kd.V_drewN | apply Kd.V_drew)); exact HO0.out⟩, ⟨BL⟩⟩
  case round =>
    clear H'
    obtain ⟨x0_1, x3_1, rfl, HA, HK1, HO_0, HB⟩ := hrel
    cases gk with
    | zero => exact absurd HA.out (by simp [samphireref02_Text.l0])
    | succ k1 =>
      have H := HA.out
      clear HA
      simp only [samphireref02_Text.l0] at H
      obtain ⟨t380, A2, H⟩ := bind_p H
      have H' := Aside0.mk H
      clear H
      obtain ⟨Ao3, co3, eo3⟩ := Kd.V_slice HO_0.out
      subst eo3
      go_wp2_with (first | ((with_reducible refine gate_callee (f := 47) rfl ?_); refine goesL_ (some 12) rfl rfl Tryd.func47 (by kernel_rfl) rfl #[.slice Ao3 x0_1.length co3, .int .i64 (wrap64 (2 * (x0_1.length : Int)))] rfl EQ ?_; (with_reducible refine (samphireref02_Half.calls k1 _ _ x0_1 (wrap64 (2 * (x0_1.length : Int))) t380 _ ?side1 ?side2 A2.out).mono ?_); (case side1 => repeat (first | exact (Kd.V_reads' HO_0.out).2.2 | (with_reducible refine Kd.C_alloc ?_ _) | (with_reducible refine Kd.C_drewN ?_ _) | (with_reducible refine Kd.C_drew ?_))); (case side2 => exact (Kd.V_reads' HO_0.out).2.1); rintro e w4 ⟨v381, rfl, ho0, hb⟩; refine ⟨_, rfl, ?_⟩; have n0_ := Aside0.mk (Kd.V_elder' (by (with_reducible repeat (first | apply Kd.V_alloc | apply Kd.V_drewN | apply Kd.V_drew)); exact HO_0.out) (Kd.R_base ho0) hb); have n1_ := Aside0.mk (Kd.R_lower (Kd.R_newM (M := fun k_ => (w.heap.size ≤ k_)) ho0 (below_size BL) (fun k_ h_ => h_)) (below_size BL)); have n2_ := Aside0.mk (below_step BL hb); clear HO_0; clear HB; have HO_0 := n0_; have HO382 := n1_; have HB := n2_; clear n0_ n1_ n2_; (try clear hb); (try clear hb2); (try clear hk); (try clear hi); (try clear ho0); obtain ⟨Ao5, co5, eo5⟩ := Kd.R_slice HO382.out; subst eo5))
      go_loopg [5, 7] k1 (fun kq v5 v7 w' => ∃ (x5_2 : Int) (x6_2 : List Int) (x7_2 : Int), v5 = .int .u64 x5_2 ∧ v7 = .int .i64 x7_2 ∧ Aside0 (samphireref02_Text.l1 kq x3_1 x5_2 x6_2 x7_2 = some r) ∧ Aside0 (kq ≤ k1) ∧ Aside0 (Kd.R (Kd.int .u64) 37 w' w.heap.size (fun k_ => (w.heap.size ≤ k_)) (.slice Ao5 t380.length co5) x6_2) ∧ Aside0 (Below w.heap.size w w'))
      case atStart => exact ⟨(0), (t380), (wrap64 ((t380.length : Int) - 1)), (by first | rfl | (simp; done) | (simp [*]; done) | (simp; exact isEmpty_bne _)), (by first | rfl | (simp; done) | (simp [*]; done) | (simp; exact isEmpty_bne _)), H', ⟨Nat.le_refl _⟩, ⟨by (with_reducible repeat (first | apply Kd.R_alloc | apply Kd.R_drewN | apply Kd.R_drew)); exact Kd.R_mono HO382.out (fun _ hk => hk.1)⟩, ⟨BL⟩⟩
      case round =>
        clear H'
        try clear c2
        try clear p2
        try clear c4
        obtain ⟨x5_2, x6_2, x7_2, rfl, rfl, HA, HK2, HO_6, HB⟩ := hrel
        have hl6_2 := (Kd.R_reads' HO_6.out).1
        rw [hl6_2] at HO_6
        (try simp only [hl6_2])
        cases gk with
        | zero => exact absurd HA.out (by simp [samphireref02_Text.l1])
        | succ k2 =>
          have H := HA.out
          clear HA
          simp only [samphireref02_Text.l1] at H
          by_cases c6 : x7_2 ≥ 0
          · rw [if_pos c6] at H
            have c6b0 : decide (0 ≤ x7_2) = true := decide_eq_true c6
            clear c6
            obtain ⟨c7, H⟩ := ite_p H
            have c7b0 : decide (0 ≤ x7_2) = true := decide_eq_true c7
            clear c7
            obtain ⟨c8, H⟩ := ite_p H
            have c8b0 : decide (x7_2 < (x6_2.length : Int)) = true := decide_eq_true c8
            (try (have c8h0 := c8b0; simp only [hl6_2] at c8h0))
            clear c8
            obtain ⟨y384, Ny384⟩ := let_p (x6_2.set (x7_2 : Int).toNat (IntKind.u64.wrap (Int.tdiv (IntKind.u64.wrap ((IntKind.u64.wrap (65536 * x5_2)) + (rd x6_2 x7_2))) 10)) : List Int)
            (first | rw [← Ny384.out] at H | simp only [← Ny384.out] at H)
            have H' := Aside0.mk H
            clear H
            have p383 : 0 ≤ (x7_2 : Int) := DA
            have q383 : x7_2 < (x6_2.length : Int) := DA
            obtain ⟨ad383, e383, hx383_0⟩ := Kd.at_int (Kd.R_reads' HO_6.out).2.2 x7_2 p383 q383
            cases e383
            replace p383 := eq_true p383
            replace q383 := eq_true q383
            have p9 : 0 ≤ (x7_2 : Int) := DA
            have q9 : (x7_2 : Int) < ((x6_2.length : Int) : Int) := DA
            obtain ⟨go9, co9, eo9, gb9, gl9, cl9, HG9⟩ := Kd.R_form HO_6.out (by omega)
            (first | cases eo9 | (injection eo9 with ea_ en_ ec_; (first | subst ea_ | (injection ea_ with ea_; subst ea_)); subst ec_; clear en_))
            have GB9 := Aside0.mk gb9
            have GG9 := Aside0.mk HG9
            clear gb9 gl9 HG9
            (first | simp only [add_plain] at hx383_0 | skip)
            obtain ⟨hx9_0, hf9_0⟩ := Kd.R_celln 0 HO_6.out (x7_2 : Int) p9 q9
            replace p9 := eq_true p9
            replace q9 := eq_true q9
            have HP10 := Kd.R_putg HO_6.out (x7_2 : Int) (IntKind.u64.wrap (Int.tdiv (IntKind.u64.wrap ((IntKind.u64.wrap (65536 * x5_2)) + (rd x6_2 x7_2))) 10))
            go_wp2_with (first | ((with_reducible refine gate_store (t := 37) (p := 31) rfl ?_); refine store_event (t := 37) (p := 31) (v := ?vo_w11) (w1 := (wr.setCell ⟨go9, (x7_2 : Int).toNat, none⟩ (.int .u64 (IntKind.u64.wrap (Int.tdiv (IntKind.u64.wrap ((IntKind.u64.wrap (65536 * x5_2)) + (rd x6_2 x7_2))) 10))))) ?hg ?ho ?hn ?hr ?_; (case ho => rfl); (case hg => rfl); (case hn => rfl); (case hr => first | (go_simp; done) | (go_simp; rfl)); intro w11 hw; have hg : wr.grownBy w11 (some go9) := (by rw [hw]; exact HP10.2); have hp_ : Kd.R (Kd.int .u64) 37 w11 w.heap.size (fun k_ => (w.heap.size ≤ k_)) (.slice (some ⟨go9, 0, none⟩) x6_2.length co5) y384 := (by rw [hw, Ny384.out]; exact HP10.1); clear HP10; have n0_ := Aside0.mk (hp_); have n1_ := Aside0.mk ((by rw [hw]; exact below_set (HB.out) GB9.out : Below w.heap.size w w11)); clear HO_6; clear HB; have HO_6 := n0_; have HB := n1_; clear n0_ n1_; clear hg hw hp_))
            (try simp only [← hl6_2])
            go_roundg k2
            case measure => have := HK1.out; have := HK2.out; omega
            case rel => exact ⟨(Int.tmod (IntKind.u64.wrap ((IntKind.u64.wrap (65536 * x5_2)) + (rd x6_2 x7_2))) 10), (y384), (wrap64 (x7_2 - 1)), (by first | rfl | (simp; done) | (simp [*]; done) | (simp; exact isEmpty_bne _)), (by first | rfl | (simp; done) | (simp [*]; done) | (simp; exact isEmpty_bne _)), H', ⟨by have := HK1.out; have := HK2.out; omega⟩, ⟨by (try simp only [hl6_2]); (with_reducible repeat (first | apply Kd.R_alloc | apply Kd.R_drewN | apply Kd.R_drew)); exact HO_6.out⟩, ⟨BL⟩⟩
          · rw [if_neg c6] at H
            have c6b0 : decide (0 ≤ x7_2) = false := decide_eq_false c6
            clear c6
            obtain ⟨t385, A12, H⟩ := bind_p H
            obtain ⟨y388, Ny388, H⟩ := some_p H
            obtain ⟨c13, H⟩ := ite_p H
            have c13b0 := eq_true c13
            have c13b1 : decide ((strOfNums y388).size + x3_1.size ≤ 9223372036854775807) = true := decide_eq_true c13
            try have c13b2 : (9223372036854775807 < (strOfNums y388).size + x3_1.size) = False := eq_false (Nat.not_lt.2 c13)
            by_cases c14 : (t385.length : Int) = 0
            · rw [if_pos c14] at H
              have c14b0 : ((t385.length : Int) == 0) = true := beq_iff_eq.mpr c14
              have c14b1 : ((t385.length : Int) != 0) = false := bne_eq_false_iff_eq.mpr c14
              (try (have c14h0 := c14b0; simp only [hl6_2] at c14h0))
              (try (have c14h1 := c14b1; simp only [hl6_2] at c14h1))
              clear c14
              obtain rfl := Option.some.inj H
              go_wp2_with (first | ((with_reducible refine gate_callee (f := 48) rfl ?_); refine goesL_ (some 35) rfl rfl Tryd.func48 (by kernel_rfl) rfl #[.slice Ao5 x6_2.length co5] rfl EQ ?_; (with_reducible refine (samphireref02_Whole.calls k2 _ _ x6_2 t385 _ ?side1 ?side2 A12.out).mono ?_); (case side1 => exact RR HO_6); (case side2 => exact (Kd.R_reads' HO_6.out).2.1); rintro e w15 ⟨v386, rfl, ho0, hb⟩; refine ⟨_, rfl, ?_⟩; have n0_ := Aside0.mk (Kd.R_below (RL HO_6) hb); have n1_ := Aside0.mk (Kd.R_lower (Kd.R_newM (M := fun k_ => (w.heap.size ≤ k_)) ho0 (below_size BL) (fun k_ h_ => h_)) (below_size BL)); have n2_ := Aside0.mk (below_step BL hb); clear HO_6; clear HB; have HO_6 := n0_; have HO387 := n1_; have HB := n2_; clear n0_ n1_ n2_; (try clear hb); (try clear hb2); (try clear hk); (try clear hi); (try clear ho0)) | ((with_reducible refine gate_dst (N := 39) rfl ?_); refine Kd.R_lit (Kd.int .u8) _ 5 ?hg (N := 39) ?hd (xs := ([(IntKind.u64.wrap (48 + x5_2)) % 256] : List Int)) (inner := [.int .u8 ((IntKind.u64.wrap (48 + x5_2)) % 256)]) (ok := fun _ => True) (okp := fun _ => True) ?hr ?hp (fun _ hk => hk) trivial (Below.refl _ _) (Nat.le_refl _) (by simp) ?_; (case hd => rfl); (case hg => rfl); (case hr => first | (go_simp; done) | (go_simp; rfl)); (case hp => exact (Reps.one (show Kd.M (Kd.int .u8) _ _ _ ((IntKind.u64.wrap (48 + x5_2)) % 256) [.int .u8 ((IntKind.u64.wrap (48 + x5_2)) % 256)] from rfl) (Reps.none _ _))); intro v389 w16 ho17 hb hg_ hnew_; clear hg_ hnew_; (first | rw [← Ny388.out] at ho17 | (simp only [Int.reduceToNat] at ho17; rw [← Ny388.out] at ho17)); have n0_ := Aside0.mk (Kd.R_below (RL HO_6) hb); have n1_ := Aside0.mk (Kd.R_below (RL HO387) hb); have n2_ := Aside0.mk (Kd.R_lower (Kd.R_newM (M := fun k_ => (w.heap.size ≤ k_)) ho17 (below_size BL) (fun k_ h_ => h_)) (below_size BL)); have n3_ := Aside0.mk (below_step BL hb); clear HO_6; clear HO387; clear HB; have HO_6 := n0_; have HO387 := n1_; have HO390 := n2_; have HB := n3_; clear n0_ n1_ n2_ n3_; clear hb ho17; have hcv18 := own_string (P := Tryd.prog) Tryd.underlying60 Tryd.underlying5 Tryd.underlying9 (Kd.own_of_R HO390.out); obtain ⟨Ao19, co19, eo19⟩ := Kd.R_slice HO387.out; subst eo19))
              go_ret
              exact ⟨by first | rfl | (simp [errW_none, errW_some] <;> rfl) | (simp [*, errW_none, errW_some] <;> rfl), BL⟩
            · rw [if_neg c14] at H
              have c14b0 : ((t385.length : Int) == 0) = false := beq_eq_false_iff_ne.mpr c14
              have c14b1 : ((t385.length : Int) != 0) = true := bne_iff_ne.mpr c14
              have c14b2 : ¬ (t385 = []) := fun h_ => c14 (by rw [h_]; rfl)
              (try (have c14h0 := c14b0; simp only [hl6_2] at c14h0))
              (try (have c14h1 := c14b1; simp only [hl6_2] at c14h1))
              have H' := Aside0.mk H
              clear H
              go_wp2_with (first | ((with_reducible refine gate_callee (f := 48) rfl ?_); refine goesL_ (some 35) rfl rfl Tryd.func48 (by kernel_rfl) rfl #[.slice Ao5 x6_2.length co5] rfl EQ ?_; (with_reducible refine (samphireref02_Whole.calls k2 _ _ x6_2 t385 _ ?side1 ?side2 A12.out).mono ?_); (case side1 => exact RR HO_6); (case side2 => exact (Kd.R_reads' HO_6.out).2.1); rintro e w20 ⟨v386, rfl, ho0, hb⟩; refine ⟨_, rfl, ?_⟩; have n0_ := Aside0.mk (Kd.R_below (RL HO_6) hb); have n1_ := Aside0.mk (Kd.R_lower (Kd.R_newM (M := fun k_ => (w.heap.size ≤ k_)) ho0 (below_size BL) (fun k_ h_ => h_)) (below_size BL)); have n2_ := Aside0.mk (below_step BL hb); clear HO_6; clear HB; have HO_6 := n0_; have HO387 := n1_; have HB := n2_; clear n0_ n1_ n2_; (try clear hb); (try clear hb2); (try clear hk); (try clear hi); (try clear ho0)) | ((with_reducible refine gate_dst (N := 39) rfl ?_); refine Kd.R_lit (Kd.int .u8) _ 5 ?hg (N := 39) ?hd (xs := ([(IntKind.u64.wrap (48 + x5_2)) % 256] : List Int)) (inner := [.int .u8 ((IntKind.u64.wrap (48 + x5_2)) % 256)]) (ok := fun _ => True) (okp := fun _ => True) ?hr ?hp (fun _ hk => hk) trivial (Below.refl _ _) (Nat.le_refl _) (by simp) ?_; (case hd => rfl); (case hg => rfl); (case hr => first | (go_simp; done) | (go_simp; rfl)); (case hp => exact (Reps.one (show Kd.M (Kd.int .u8) _ _ _ ((IntKind.u64.wrap (48 + x5_2)) % 256) [.int .u8 ((IntKind.u64.wrap (48 + x5_2)) % 256)] from rfl) (Reps.none _ _))); intro v389 w21 ho22 hb hg_ hnew_; clear hg_ hnew_; (first | rw [← Ny388.out] at ho22 | (simp only [Int.reduceToNat] at ho22; rw [← Ny388.out] at ho22)); have n0_ := Aside0.mk (Kd.R_below (RL HO_6) hb); have n1_ := Aside0.mk (Kd.R_below (RL HO387) hb); have n2_ := Aside0.mk (Kd.R_lower (Kd.R_newM (M := fun k_ => (w.heap.size ≤ k_)) ho22 (below_size BL) (fun k_ h_ => h_)) (below_size BL)); have n3_ := Aside0.mk (below_step BL hb); clear HO_6; clear HO387; clear HB; have HO_6 := n0_; have HO387 := n1_; have HO390 := n2_; have HB := n3_; clear n0_ n1_ n2_ n3_; clear hb ho22; have hcv23 := own_string (P := Tryd.prog) Tryd.underlying60 Tryd.underlying5 Tryd.underlying9 (Kd.own_of_R HO390.out); obtain ⟨Ao24, co24, eo24⟩ := Kd.R_slice HO387.out; subst eo24))
              (try simp only [← hl6_2])
              go_roundg k2
              case measure => have := HK1.out; have := HK2.out; omega
              case rel => exact ⟨(t385), ((strOfNums y388) ++ x3_1), (by first | rfl | (simp; done) | (simp [*]; done) | (simp; exact isEmpty_bne _)), H', ⟨by have := HK1.out; have := HK2.out; omega⟩, ⟨Kd.V_mono (Kd.R_V (by (try simp only [hl6_2]); (with_reducible repeat (first | apply Kd.R_alloc | apply Kd.R_drewN | apply Kd.R_drew)); exact Kd.R_mono HO387.out (fun _ hk => hk.1))) (fun k_ hk => by first | exact ⟨(.inr (hk.1)), hk.2⟩ | exact (.inr (hk)))⟩, ⟨BL⟩⟩

/-! ### samphireref02_Add: function 24 -/
set_option maxHeartbeats 8000000 in
set_option maxRecDepth 100000 in
theorem samphireref02_Add.calls (k : Nat) (A0 : Option Addr) (c0 : Nat) (l0 : List Int) (A1 : Option Addr) (c1 : Nat) (l1 : List Int) (r : List Int) (w : World) (hr0 : Kd.C (Kd.int .u32) w A0 l0.length l0) (hc0 : l0.length ≤ c0) (hr1 : Kd.C (Kd.int .u32) w A1 l1.length l1) (hc1 : l1.length ≤ c1) (h : samphireref02_Add.f k l0 l1 = some r) :
    Calls Tryd.prog 24 #[.slice A0 l0.length c0, .slice A1 l1.length c1] w fun e w' => ∃ v0_ : Value, e = .returned (v0_) ∧ Kd.R (Kd.int .u32) 36 w' w.heap.size (fun _ => True) v0_ r ∧ Below w.heap.size w w' := by
  have HR0 := Aside0.mk hr0
  have HC0 := Aside0.mk hc0
  clear hr0 hc0
  have HR1 := Aside0.mk hr1
  have HC1 := Aside0.mk hc1
  clear hr1 hc1
  have HB := Aside0.mk (Below.refl w.heap.size w)
  have H : ((samphireref02_Half.f k l0 (wrap64 ((wrap64 (2 * (mx (l0.length : Int) (l1.length : Int)))) + 2))).bind fun t391 => ((samphireref02_Half.f k l1 (wrap64 ((wrap64 (2 * (mx (l0.length : Int) (l1.length : Int)))) + 2))).bind fun t394 => (samphireref02_Add.l0 k (wrap64 ((wrap64 (2 * (mx (l0.length : Int) (l1.length : Int)))) + 2)) t391 t394 0 0))) = some r := h
  clear h
  obtain ⟨ji3, hji3⟩ := let_j (mx (l0.length : Int) (l1.length : Int))
  (first | rw [hji3] at H | simp only [hji3] at H ⊢)
  (try (have hji3l : 0 ≤ ji3 := by (rw [← hji3]; unfold mx; (repeat' split) <;> omega)))
  (try (have hji3m : 0 ≤ ji3 := by omega))
  (try (have hji3N_ : (if l0.length < l1.length then (l1.length : Int) else (l0.length : Int)) = ji3 := by (have h_ := hji3; unfold mx at h_; split at h_ <;> split <;> omega)))
  have hji3_ : (if (l0.length : Int) < (l1.length : Int) then (l1.length : Int) else (l0.length : Int)) = ji3 := hji3
  obtain ⟨t391, A4, H⟩ := bind_p H
  obtain ⟨t394, A5, H⟩ := bind_p H
  have H' := Aside0.mk H
  clear H
  go_enter Tryd.func24, Tryd.ntmps24
  go_wp2_with (first | (go_at_call 47; (with_reducible refine (samphireref02_Half.calls k _ _ l0 (wrap64 ((wrap64 (2 * (ji3))) + 2)) t391 _ ?side1 ?side2 A4.out).mono ?_); (case side1 => repeat (first | exact HR0.out | (with_reducible refine Kd.C_alloc ?_ _) | (with_reducible refine Kd.C_drewN ?_ _) | (with_reducible refine Kd.C_drew ?_))); (case side2 => exact HC0.out); rintro e w6 ⟨v392, rfl, ho0, hb⟩; have n0_ := Aside0.mk (Kd.R_lower ho0 (below_size BL)); have n1_ := Aside0.mk (below_step BL hb); clear HB; have HO393 := n0_; have HB := n1_; clear n0_ n1_; (try clear hb); (try clear hb2); (try clear hk); (try clear hi); (try clear ho0)) | (go_at_call 47; (with_reducible refine (samphireref02_Half.calls k _ _ l1 (wrap64 ((wrap64 (2 * (ji3))) + 2)) t394 _ ?side1 ?side2 A5.out).mono ?_); (case side1 => exact CB HR1); (case side2 => exact HC1.out); rintro e w7 ⟨v395, rfl, ho0, hb⟩; have n0_ := Aside0.mk (Kd.R_elder' (RL HO393) (Kd.R_base ho0) hb); have n1_ := Aside0.mk (Kd.R_lower (Kd.R_new' ho0 (Kd.R_lt (RL HO393))) (below_size BL)); have n2_ := Aside0.mk (below_step BL hb); clear HO393; clear HB; have HO393 := n0_; have HO396 := n1_; have HB := n2_; clear n0_ n1_ n2_; (try clear hb); (try clear hb2); (try clear hk); (try clear hi); (try clear ho0)))
  repeat (go_quiet (first | (go_at_call 47; (with_reducible refine (samphireref02_Half.calls k _ _ l0 (wrap64 ((wrap64 (2 * (ji3))) + 2)) t391 _ ?side1 ?side2 A4.out).mono ?_); (case side1 => repeat (first | exact HR0.out | (with_reducible refine Kd.C_alloc ?_ _) | (with_reducible refine Kd.C_drewN ?_ _) | (with_reducible refine Kd.C_drew ?_))); (case side2 => exact HC0.out); rintro e w6 ⟨v392, rfl, ho0, hb⟩; have n0_ := Aside0.mk (Kd.R_lower ho0 (below_size BL)); have n1_ := Aside0.mk (below_step BL hb); clear HB; have HO393 := n0_; have HB := n1_; clear n0_ n1_; (try clear hb); (try clear hb2); (try clear hk); (try clear hi); (try clear ho0)) | (go_at_call 47; (with_reducible refine (samphireref02_Half.calls k _ _ l1 (wrap64 ((wrap64 (2 * (ji3))) + 2)) t394 _ ?side1 ?side2 A5.out).mono ?_); (case side1 => exact CB HR1); (case side2 => exact HC1.out); rintro e w7 ⟨v395, rfl, ho0, hb⟩; have n0_ := Aside0.mk (Kd.R_elder' (RL HO393) (Kd.R_base ho0) hb); have n1_ := Aside0.mk (Kd.R_lower (Kd.R_new' ho0 (Kd.R_lt (RL HO393))) (below_size BL)); have n2_ := Aside0.mk (below_step BL hb); clear HO393; clear HB; have HO393 := n0_; have HO396 := n1_; have HB := n2_; clear n0_ n1_ n2_; (try clear hb); (try clear hb2); (try clear hk); (try clear hi); (try clear ho0))); try go_wp2_with (first | (go_at_call 47; (with_reducible refine (samphireref02_Half.calls k _ _ l0 (wrap64 ((wrap64 (2 * (ji3))) + 2)) t391 _ ?side1 ?side2 A4.out).mono ?_); (case side1 => repeat (first | exact HR0.out | (with_reducible refine Kd.C_alloc ?_ _) | (with_reducible refine Kd.C_drewN ?_ _) | (with_reducible refine Kd.C_drew ?_))); (case side2 => exact HC0.out); rintro e w6 ⟨v392, rfl, ho0, hb⟩; have n0_ := Aside0.mk (Kd.R_lower ho0 (below_size BL)); have n1_ := Aside0.mk (below_step BL hb); clear HB; have HO393 := n0_; have HB := n1_; clear n0_ n1_; (try clear hb); (try clear hb2); (try clear hk); (try clear hi); (try clear ho0)) | (go_at_call 47; (with_reducible refine (samphireref02_Half.calls k _ _ l1 (wrap64 ((wrap64 (2 * (ji3))) + 2)) t394 _ ?side1 ?side2 A5.out).mono ?_); (case side1 => exact CB HR1); (case side2 => exact HC1.out); rintro e w7 ⟨v395, rfl, ho0, hb⟩; have n0_ := Aside0.mk (Kd.R_elder' (RL HO393) (Kd.R_base ho0) hb); have n1_ := Aside0.mk (Kd.R_lower (Kd.R_new' ho0 (Kd.R_lt (RL HO393))) (below_size BL)); have n2_ := Aside0.mk (below_step BL hb); clear HO393; clear HB; have HO393 := n0_; have HO396 := n1_; have HB := n2_; clear n0_ n1_ n2_; (try clear hb); (try clear hb2); (try clear hk); (try clear hi); (try clear ho0))))
  go_loopg [8, 9] k (fun kq v8 v9 w' => ∃ (x6_1 : List Int) (x8_1 : Int) (x9_1 : Int), v8 = .int .u64 x8_1 ∧ v9 = .int .i64 x9_1 ∧ Aside0 (samphireref02_Add.l0 kq (wrap64 ((wrap64 (2 * (ji3))) + 2)) x6_1 t394 x8_1 x9_1 = some r) ∧ Aside0 (kq ≤ k) ∧ Aside0 (Kd.R (Kd.int .u64) 37 w' w.heap.size (fun k_ => some k_ ≠ (v395 : Value).ownBlock) v392 x6_1) ∧ Aside0 (Kd.R (Kd.int .u64) 37 w' w.heap.size (fun k_ => some k_ ≠ (v392 : Value).ownBlock) v395 t394) ∧ Aside0 (Below w.heap.size w w'))
  case atStart => exact ⟨(t391), (0), (0), (by first | rfl | (simp; done) | (simp [*]; done) | (simp; exact isEmpty_bne _)), (by first | rfl | (simp; done) | (simp [*]; done) | (simp; exact isEmpty_bne _)), H', ⟨Nat.le_refl _⟩, ⟨by (with_reducible repeat (first | apply Kd.R_alloc | apply Kd.R_drewN | apply Kd.R_drew)); exact Kd.R_mono HO393.out (fun _ hk => hk.2)⟩, ⟨by (with_reducible repeat (first | apply Kd.R_alloc | apply Kd.R_drewN | apply Kd.R_drew)); exact Kd.R_mono HO396.out (fun _ hk => hk.2)⟩, ⟨BL⟩⟩
  case round =>
    clear H'
    try clear c1
    try clear c2
    try clear p2
    try clear p6
    obtain ⟨x6_1, x8_1, x9_1, rfl, rfl, HA, HK1, HO_6, HO_7, HB⟩ := hrel
    cases gk with
    | zero => exact absurd HA.out (by simp [samphireref02_Add.l0])
    | succ k1 =>
      have H := HA.out
      clear HA
      simp only [samphireref02_Add.l0] at H
      by_cases c8 : x9_1 < (wrap64 ((wrap64 (2 * (ji3))) + 2))
      · rw [if_pos c8] at H
        have c8b0 : decide (x9_1 < (wrap64 ((wrap64 (2 * (ji3))) + 2))) = true := decide_eq_true c8
        clear c8
        obtain ⟨c9, H⟩ := ite_p H
        have c9b0 : decide (0 ≤ x9_1) = true := decide_eq_true c9
        clear c9
        obtain ⟨c10, H⟩ := ite_p H
        have c10b0 : decide (x9_1 < (x6_1.length : Int)) = true := decide_eq_true c10
        clear c10
        obtain ⟨c11, H⟩ := ite_p H
        have c11b0 : decide (x9_1 < (t394.length : Int)) = true := decide_eq_true c11
        clear c11
        obtain ⟨y399, Ny399⟩ := let_p (x6_1.set (x9_1 : Int).toNat (Int.tmod (IntKind.u64.wrap ((IntKind.u64.wrap ((rd x6_1 x9_1) + (rd t394 x9_1))) + x8_1)) 65536) : List Int)
        (first | rw [← Ny399.out] at H | simp only [← Ny399.out] at H)
        have H' := Aside0.mk H
        clear H
        obtain ⟨Ao13, co13, eo13⟩ := Kd.R_slice HO_6.out
        subst eo13
        have p397 : 0 ≤ (x9_1 : Int) := DA
        have q397 : x9_1 < (x6_1.length : Int) := DA
        obtain ⟨ad397, e397, hx397_0⟩ := Kd.at_int (Kd.R_reads' HO_6.out).2.2 x9_1 p397 q397
        cases e397
        replace p397 := eq_true p397
        replace q397 := eq_true q397
        obtain ⟨Ao14, co14, eo14⟩ := Kd.R_slice HO_7.out
        subst eo14
        have p398 : 0 ≤ (x9_1 : Int) := DA
        have q398 : x9_1 < (t394.length : Int) := DA
        obtain ⟨ad398, e398, hx398_0⟩ := Kd.at_int (Kd.R_reads' HO_7.out).2.2 x9_1 p398 q398
        cases e398
        replace p398 := eq_true p398
        replace q398 := eq_true q398
        have p12 : 0 ≤ (x9_1 : Int) := DA
        have q12 : (x9_1 : Int) < ((x6_1.length : Int) : Int) := DA
        obtain ⟨go12, co12, eo12, gb12, gl12, cl12, HG12⟩ := Kd.R_form HO_6.out (by omega)
        (first | cases eo12 | (injection eo12 with ea_ en_ ec_; (first | subst ea_ | (injection ea_ with ea_; subst ea_)); subst ec_; clear en_))
        have GB12 := Aside0.mk gb12
        have GG12 := Aside0.mk HG12
        clear gb12 gl12 HG12
        (first | simp only [add_plain] at hx397_0 | skip)
        obtain ⟨hx12_0, hf12_0⟩ := Kd.R_celln 0 HO_6.out (x9_1 : Int) p12 q12
        replace p12 := eq_true p12
        replace q12 := eq_true q12
        have HP15 := Kd.R_putg HO_6.out (x9_1 : Int) (Int.tmod (IntKind.u64.wrap ((IntKind.u64.wrap ((rd x6_1 x9_1) + (rd t394 x9_1))) + x8_1)) 65536)
        go_wp2_with (first | ((with_reducible refine gate_store (t := 37) (p := 44) rfl ?_); (try (rw [drewN_self wr]; generalize hq_ : World.drewN wr _ = wr; have n0_ := Aside0.mk (Kd.R_at hq_ HO_6.out); have n1_ := Aside0.mk (Kd.R_at hq_ HO_7.out); have n2_ := Aside0.mk (below_at hq_ HB.out); clear hq_ HO_6 HO_7 HB; have HO_6 := n0_; have HO_7 := n1_; have HB := n2_; clear n0_ n1_ n2_; (try (obtain ⟨hx12_0, hf12_0⟩ := Kd.R_celln 0 HO_6.out (x9_1 : Int) (of_eq_true p12) (of_eq_true q12))); (try (have HP15 := Kd.R_putg HO_6.out (x9_1 : Int) (Int.tmod (IntKind.u64.wrap ((IntKind.u64.wrap ((rd x6_1 x9_1) + (rd t394 x9_1))) + x8_1)) 65536))))); refine store_event (t := 37) (p := 44) (v := ?vo_w16) (w1 := (wr.setCell ⟨go12, (x9_1 : Int).toNat, none⟩ (.int .u64 (Int.tmod (IntKind.u64.wrap ((IntKind.u64.wrap ((rd x6_1 x9_1) + (rd t394 x9_1))) + x8_1)) 65536)))) ?hg ?ho ?hn ?hr ?_; (case ho => rfl); (case hg => rfl); (case hn => rfl); (case hr => first | (go_simp; done) | (go_simp; rfl)); intro w16 hw; have hg : wr.grownBy w16 (some go12) := (by rw [hw]; exact HP15.2); have hp_ : Kd.R (Kd.int .u64) 37 w16 w.heap.size (fun k_ => some k_ ≠ (.slice (some ad398) t394.length co14 : Value).ownBlock) (.slice (some ⟨go12, 0, none⟩) x6_1.length co13) y399 := (by rw [hw, Ny399.out]; exact HP15.1); clear HP15; have n0_ := Aside0.mk (hp_); have n1_ := Aside0.mk (Kd.R_after (v := (.slice (some ⟨go12, 0, none⟩) x6_1.length co13)) (v1 := (.slice (some ⟨go12, 0, none⟩) x6_1.length co13)) (ok := (fun _ => True)) (by (with_reducible repeat (first | apply Kd.R_alloc | apply Kd.R_drewN | apply Kd.R_drew)); exact Kd.R_mono HO_7.out (fun _ hk => ⟨trivial, hk⟩)) hg (.inl rfl)); have n2_ := Aside0.mk ((by rw [hw]; exact below_set (HB.out) GB12.out : Below w.heap.size w w16)); clear HO_6; clear HO_7; clear HB; have HO_6 := n0_; have HO_7 := n1_; have HB := n2_; clear n0_ n1_ n2_; clear hg hw hp_))
        repeat (go_quiet (first | ((with_reducible refine gate_store (t := 37) (p := 44) rfl ?_); (try (rw [drewN_self wr]; generalize hq_ : World.drewN wr _ = wr; have n0_ := Aside0.mk (Kd.R_at hq_ HO_6.out); have n1_ := Aside0.mk (Kd.R_at hq_ HO_7.out); have n2_ := Aside0.mk (below_at hq_ HB.out); clear hq_ HO_6 HO_7 HB; have HO_6 := n0_; have HO_7 := n1_; have HB := n2_; clear n0_ n1_ n2_; (try (obtain ⟨hx12_0, hf12_0⟩ := Kd.R_celln 0 HO_6.out (x9_1 : Int) (of_eq_true p12) (of_eq_true q12))); (try (have HP15 := Kd.R_putg HO_6.out (x9_1 : Int) (Int.tmod (IntKind.u64.wrap ((IntKind.u64.wrap ((rd x6_1 x9_1) + (rd t394 x9_1))) + x8_1)) 65536))))); refine store_event (t := 37) (p := 44) (v := ?vo_w16) (w1 := (wr.setCell ⟨go12, (x9_1 : Int).toNat, none⟩ (.int .u64 (Int.tmod (IntKind.u64.wrap ((IntKind.u64.wrap ((rd x6_1 x9_1) + (rd t394 x9_1))) + x8_1)) 65536)))) ?hg ?ho ?hn ?hr ?_; (case ho => rfl); (case hg => rfl); (case hn => rfl); (case hr => first | (go_simp; done) | (go_simp; rfl)); intro w16 hw; have hg : wr.grownBy w16 (some go12) := (by rw [hw]; exact HP15.2); have hp_ : Kd.R (Kd.int .u64) 37 w16 w.heap.size (fun k_ => some k_ ≠ (.slice (some ad398) t394.length co14 : Value).ownBlock) (.slice (some ⟨go12, 0, none⟩) x6_1.length co13) y399 := (by rw [hw, Ny399.out]; exact HP15.1); clear HP15; have n0_ := Aside0.mk (hp_); have n1_ := Aside0.mk (Kd.R_after (v := (.slice (some ⟨go12, 0, none⟩) x6_1.length co13)) (v1 := (.slice (some ⟨go12, 0, none⟩) x6_1.length co13)) (ok := (fun _ => True)) (by (with_reducible repeat (first | apply Kd.R_alloc | apply Kd.R_drewN | apply Kd.R_drew)); exact Kd.R_mono HO_7.out (fun _ hk => ⟨trivial, hk⟩)) hg (.inl rfl)); have n2_ := Aside0.mk ((by rw [hw]; exact below_set (HB.out) GB12.out : Below w.heap.size w w16)); clear HO_6; clear HO_7; clear HB; have HO_6 := n0_; have HO_7 := n1_; have HB := n2_; clear n0_ n1_ n2_; clear hg hw hp_)); try go_wp2_with (first | ((with_reducible refine gate_store (t := 37) (p := 44) rfl ?_); (try (rw [drewN_self wr]; generalize hq_ : World.drewN wr _ = wr; have n0_ := Aside0.mk (Kd.R_at hq_ HO_6.out); have n1_ := Aside0.mk (Kd.R_at hq_ HO_7.out); have n2_ := Aside0.mk (below_at hq_ HB.out); clear hq_ HO_6 HO_7 HB; have HO_6 := n0_; have HO_7 := n1_; have HB := n2_; clear n0_ n1_ n2_; (try (obtain ⟨hx12_0, hf12_0⟩ := Kd.R_celln 0 HO_6.out (x9_1 : Int) (of_eq_true p12) (of_eq_true q12))); (try (have HP15 := Kd.R_putg HO_6.out (x9_1 : Int) (Int.tmod (IntKind.u64.wrap ((IntKind.u64.wrap ((rd x6_1 x9_1) + (rd t394 x9_1))) + x8_1)) 65536))))); refine store_event (t := 37) (p := 44) (v := ?vo_w16) (w1 := (wr.setCell ⟨go12, (x9_1 : Int).toNat, none⟩ (.int .u64 (Int.tmod (IntKind.u64.wrap ((IntKind.u64.wrap ((rd x6_1 x9_1) + (rd t394 x9_1))) + x8_1)) 65536)))) ?hg ?ho ?hn ?hr ?_; (case ho => rfl); (case hg => rfl); (case hn => rfl); (case hr => first | (go_simp; done) | (go_simp; rfl)); intro w16 hw; have hg : wr.grownBy w16 (some go12) := (by rw [hw]; exact HP15.2); have hp_ : Kd.R (Kd.int .u64) 37 w16 w.heap.size (fun k_ => some k_ ≠ (.slice (some ad398) t394.length co14 : Value).ownBlock) (.slice (some ⟨go12, 0, none⟩) x6_1.length co13) y399 := (by rw [hw, Ny399.out]; exact HP15.1); clear HP15; have n0_ := Aside0.mk (hp_); have n1_ := Aside0.mk (Kd.R_after (v := (.slice (some ⟨go12, 0, none⟩) x6_1.length co13)) (v1 := (.slice (some ⟨go12, 0, none⟩) x6_1.length co13)) (ok := (fun _ => True)) (by (with_reducible repeat (first | apply Kd.R_alloc | apply Kd.R_drewN | apply Kd.R_drew)); exact Kd.R_mono HO_7.out (fun _ hk => ⟨trivial, hk⟩)) hg (.inl rfl)); have n2_ := Aside0.mk ((by rw [hw]; exact below_set (HB.out) GB12.out : Below w.heap.size w w16)); clear HO_6; clear HO_7; clear HB; have HO_6 := n0_; have HO_7 := n1_; have HB := n2_; clear n0_ n1_ n2_; clear hg hw hp_)))
        go_roundg k1
        case measure => have := HK1.out; omega
        case rel => exact ⟨(y399), (IntKind.u64.wrap (Int.tdiv (IntKind.u64.wrap ((IntKind.u64.wrap ((rd x6_1 x9_1) + (rd t394 x9_1))) + x8_1)) 65536)), (wrap64 (x9_1 + 1)), (by first | rfl | (simp; done) | (simp [*]; done) | (simp; exact isEmpty_bne _)), (by first | rfl | (simp; done) | (simp [*]; done) | (simp; exact isEmpty_bne _)), H', ⟨by have := HK1.out; omega⟩, ⟨by (with_reducible repeat (first | apply Kd.R_alloc | apply Kd.R_drewN | apply Kd.R_drew)); exact HO_6.out⟩, ⟨by (with_reducible repeat (first | apply Kd.R_alloc | apply Kd.R_drewN | apply Kd.R_drew)); exact Kd.R_mono HO_7.out (fun _ hk => hk.2)⟩, ⟨BL⟩⟩
      · rw [if_neg c8] at H
        have c8b0 : decide (x9_1 < (wrap64 ((wrap64 (2 * (ji3))) + 2))) = false := decide_eq_false c8
        clear c8
        obtain ⟨t400, A17, H⟩ := bind_p H
        obtain rfl := Option.some.inj H
        obtain ⟨Ao18, co18, eo18⟩ := Kd.R_slice HO_6.out
        subst eo18
        go_wp2_with (first | (go_at_call 48; (with_reducible refine (samphireref02_Whole.calls k1 _ _ x6_1 t400 _ ?side1 ?side2 A17.out).mono ?_); (case side1 => exact RR HO_6); (case side2 => exact (Kd.R_reads' HO_6.out).2.1); rintro e w19 ⟨v401, rfl, ho0, hb⟩; have n0_ := Aside0.mk (Kd.R_below (RL HO_6) hb); have n1_ := Aside0.mk (Kd.R_below (RL HO_7) hb); have n2_ := Aside0.mk (Kd.R_lower ho0 (below_size BL)); have n3_ := Aside0.mk (below_step BL hb); clear HO_6; clear HO_7; clear HB; have HO_6 := n0_; have HO_7 := n1_; have HO402 := n2_; have HB := n3_; clear n0_ n1_ n2_ n3_; (try clear hb); (try clear hb2); (try clear hk); (try clear hi); (try clear ho0)))
        repeat (go_quiet (first | (go_at_call 48; (with_reducible refine (samphireref02_Whole.calls k1 _ _ x6_1 t400 _ ?side1 ?side2 A17.out).mono ?_); (case side1 => exact RR HO_6); (case side2 => exact (Kd.R_reads' HO_6.out).2.1); rintro e w19 ⟨v401, rfl, ho0, hb⟩; have n0_ := Aside0.mk (Kd.R_below (RL HO_6) hb); have n1_ := Aside0.mk (Kd.R_below (RL HO_7) hb); have n2_ := Aside0.mk (Kd.R_lower ho0 (below_size BL)); have n3_ := Aside0.mk (below_step BL hb); clear HO_6; clear HO_7; clear HB; have HO_6 := n0_; have HO_7 := n1_; have HO402 := n2_; have HB := n3_; clear n0_ n1_ n2_ n3_; (try clear hb); (try clear hb2); (try clear hk); (try clear hi); (try clear ho0))); try go_wp2_with (first | (go_at_call 48; (with_reducible refine (samphireref02_Whole.calls k1 _ _ x6_1 t400 _ ?side1 ?side2 A17.out).mono ?_); (case side1 => exact RR HO_6); (case side2 => exact (Kd.R_reads' HO_6.out).2.1); rintro e w19 ⟨v401, rfl, ho0, hb⟩; have n0_ := Aside0.mk (Kd.R_below (RL HO_6) hb); have n1_ := Aside0.mk (Kd.R_below (RL HO_7) hb); have n2_ := Aside0.mk (Kd.R_lower ho0 (below_size BL)); have n3_ := Aside0.mk (below_step BL hb); clear HO_6; clear HO_7; clear HB; have HO_6 := n0_; have HO_7 := n1_; have HO402 := n2_; have HB := n3_; clear n0_ n1_ n2_ n3_; (try clear hb); (try clear hb2); (try clear hk); (try clear hi); (try clear ho0))))
        go_ret
        exact ⟨_, by first | rfl | (simp [errW_none, errW_some] <;> rfl) | (simp only [← hji3]; first | rfl | (simp [errW_none, errW_some] <;> rfl)) | (simp [*, errW_none, errW_some] <;> rfl), by (with_reducible repeat (first | apply Kd.R_alloc | apply Kd.R_drewN | apply Kd.R_drew)); exact HO402.out, BL⟩

/-! ### samphireref02_Mul: function 26 -/
set_option maxHeartbeats 8000000 in
set_option maxRecDepth 100000 in
theorem samphireref02_Mul.calls (k : Nat) (A0 : Option Addr) (c0 : Nat) (l0 : List Int) (A1 : Option Addr) (c1 : Nat) (l1 : List Int) (r : List Int) (w : World) (hr0 : Kd.C (Kd.int .u32) w A0 l0.length l0) (hc0 : l0.length ≤ c0) (hr1 : Kd.C (Kd.int .u32) w A1 l1.length l1) (hc1 : l1.length ≤ c1) (h : samphireref02_Mul.f k l0 l1 = some r) :
    Calls Tryd.prog 26 #[.slice A0 l0.length c0, .slice A1 l1.length c1] w fun e w' => ∃ v0_ : Value, e = .returned (v0_) ∧ Kd.R (Kd.int .u32) 36 w' w.heap.size (fun _ => True) v0_ r ∧ Below w.heap.size w w' := by
  have HR0 := Aside0.mk hr0
  have HC0 := Aside0.mk hc0
  clear hr0 hc0
  have HR1 := Aside0.mk hr1
  have HC1 := Aside0.mk hc1
  clear hr1 hc1
  have HB := Aside0.mk (Below.refl w.heap.size w)
  have H : ((samphireref02_Half.f k l0 (wrap64 (2 * (l0.length : Int)))).bind fun t403 => ((samphireref02_Half.f k l1 (wrap64 (2 * (l1.length : Int)))).bind fun t406 => (if 0 ≤ (wrap64 ((wrap64 ((wrap64 (2 * (l0.length : Int))) + (wrap64 (2 * (l1.length : Int))))) + 2)) then (if (wrap64 ((wrap64 ((wrap64 (2 * (l0.length : Int))) + (wrap64 (2 * (l1.length : Int))))) + 2) : Int).toNat ≤ 35184372088832 then (samphireref02_Mul.l0 k (wrap64 (2 * (l0.length : Int))) (wrap64 (2 * (l1.length : Int))) t403 t406 (List.replicate (wrap64 ((wrap64 ((wrap64 (2 * (l0.length : Int))) + (wrap64 (2 * (l1.length : Int))))) + 2) : Int).toNat 0) 0) else (none)) else (none)))) = some r := h
  clear h
  obtain ⟨t403, A3, H⟩ := bind_p H
  obtain ⟨t406, A4, H⟩ := bind_p H
  obtain ⟨ji5, hji5⟩ := let_j (wrap64 ((wrap64 ((wrap64 (2 * (l0.length : Int))) + (wrap64 (2 * (l1.length : Int))))) + 2))
  (first | rw [hji5] at H | simp only [hji5] at H ⊢)
  (try rw [hji5] at A3)
  (try rw [hji5] at A4)
  have hji5w : (IntKind.i64.wrap ((wrap64 ((wrap64 (2 * (l0.length : Int))) + (wrap64 (2 * (l1.length : Int))))) + 2)) = ji5 := (i64_w _).trans hji5
  obtain ⟨c6, H⟩ := ite_p H
  have c6b0 := eq_true c6
  have c6b1 : decide (0 ≤ (ji5)) = true := decide_eq_true c6
  clear c6
  obtain ⟨c7, H⟩ := ite_p H
  have c7b0 := eq_true c7
  have c7b1 : decide ((ji5 : Int).toNat ≤ 35184372088832) = true := decide_eq_true c7
  clear c7
  obtain ⟨y409, Ny409⟩ := let_p (List.replicate (ji5 : Int).toNat 0 : List Int)
  (first | rw [← Ny409.out] at H | simp only [← Ny409.out] at H)
  have H' := Aside0.mk H
  clear H
  go_enter Tryd.func26, Tryd.ntmps26
  go_wp2_with (first | (go_at_call 47; (with_reducible refine (samphireref02_Half.calls k _ _ l0 (wrap64 (2 * (l0.length : Int))) t403 _ ?side1 ?side2 A3.out).mono ?_); (case side1 => repeat (first | exact HR0.out | (with_reducible refine Kd.C_alloc ?_ _) | (with_reducible refine Kd.C_drewN ?_ _) | (with_reducible refine Kd.C_drew ?_))); (case side2 => exact HC0.out); rintro e w8 ⟨v404, rfl, ho0, hb⟩; have n0_ := Aside0.mk (Kd.R_lower ho0 (below_size BL)); have n1_ := Aside0.mk (below_step BL hb); clear HB; have HO405 := n0_; have HB := n1_; clear n0_ n1_; (try clear hb); (try clear hb2); (try clear hk); (try clear hi); (try clear ho0)) | (go_at_call 47; (with_reducible refine (samphireref02_Half.calls k _ _ l1 (wrap64 (2 * (l1.length : Int))) t406 _ ?side1 ?side2 A4.out).mono ?_); (case side1 => exact CB HR1); (case side2 => exact HC1.out); rintro e w9 ⟨v407, rfl, ho0, hb⟩; have n0_ := Aside0.mk (Kd.R_elder' (RL HO405) (Kd.R_base ho0) hb); have n1_ := Aside0.mk (Kd.R_lower (Kd.R_new' ho0 (Kd.R_lt (RL HO405))) (below_size BL)); have n2_ := Aside0.mk (below_step BL hb); clear HO405; clear HB; have HO405 := n0_; have HO408 := n1_; have HB := n2_; clear n0_ n1_ n2_; (try clear hb); (try clear hb2); (try clear hk); (try clear hi); (try clear ho0)) | ((with_reducible refine gate_dst (N := 30) rfl ?_); refine Kd.R_make (Kd.int .u64) _ 37 rfl (N := 30) rfl 57 _ _ rfl ji5 rfl rfl Tryd.underlying57 (.int .u64 0) 8 info37 rfl (by decide) (by omega) 0 (ok := fun _ => True) (okp := fun _ => True) rfl (fun _ hk => hk) trivial (DA) (Nat.le_trans (Nat.mul_le_mul_right _ (DA : ji5.toNat ≤ 35184372088832)) (by omega)) (Below.refl _ _) (Nat.le_refl _) ?_; intro v410 w10 ho11 hb hg_ hnew_; clear hg_ hnew_; (first | rw [← Ny409.out] at ho11 | (simp only [Int.reduceToNat] at ho11; rw [← Ny409.out] at ho11)); have n0_ := Aside0.mk (Kd.R_elder' (RL HO405) (Kd.R_base ho11) hb); have n1_ := Aside0.mk (Kd.R_elder' (RL HO408) (Kd.R_base ho11) hb); have n2_ := Aside0.mk (Kd.R_lower (Kd.R_new' (Kd.R_new' ho11 (Kd.R_lt (RL HO405))) (Kd.R_lt (RL HO408))) (below_size BL)); have n3_ := Aside0.mk (below_step BL hb); clear HO405; clear HO408; clear HB; have HO405 := n0_; have HO408 := n1_; have HO411 := n2_; have HB := n3_; clear n0_ n1_ n2_ n3_; clear hb ho11))
  repeat (go_quiet (first | (go_at_call 47; (with_reducible refine (samphireref02_Half.calls k _ _ l0 (wrap64 (2 * (l0.length : Int))) t403 _ ?side1 ?side2 A3.out).mono ?_); (case side1 => repeat (first | exact HR0.out | (with_reducible refine Kd.C_alloc ?_ _) | (with_reducible refine Kd.C_drewN ?_ _) | (with_reducible refine Kd.C_drew ?_))); (case side2 => exact HC0.out); rintro e w8 ⟨v404, rfl, ho0, hb⟩; have n0_ := Aside0.mk (Kd.R_lower ho0 (below_size BL)); have n1_ := Aside0.mk (below_step BL hb); clear HB; have HO405 := n0_; have HB := n1_; clear n0_ n1_; (try clear hb); (try clear hb2); (try clear hk); (try clear hi); (try clear ho0)) | (go_at_call 47; (with_reducible refine (samphireref02_Half.calls k _ _ l1 (wrap64 (2 * (l1.length : Int))) t406 _ ?side1 ?side2 A4.out).mono ?_); (case side1 => exact CB HR1); (case side2 => exact HC1.out); rintro e w9 ⟨v407, rfl, ho0, hb⟩; have n0_ := Aside0.mk (Kd.R_elder' (RL HO405) (Kd.R_base ho0) hb); have n1_ := Aside0.mk (Kd.R_lower (Kd.R_new' ho0 (Kd.R_lt (RL HO405))) (below_size BL)); have n2_ := Aside0.mk (below_step BL hb); clear HO405; clear HB; have HO405 := n0_; have HO408 := n1_; have HB := n2_; clear n0_ n1_ n2_; (try clear hb); (try clear hb2); (try clear hk); (try clear hi); (try clear ho0)) | ((with_reducible refine gate_dst (N := 30) rfl ?_); refine Kd.R_make (Kd.int .u64) _ 37 rfl (N := 30) rfl 57 _ _ rfl ji5 rfl rfl Tryd.underlying57 (.int .u64 0) 8 info37 rfl (by decide) (by omega) 0 (ok := fun _ => True) (okp := fun _ => True) rfl (fun _ hk => hk) trivial (DA) (Nat.le_trans (Nat.mul_le_mul_right _ (DA : ji5.toNat ≤ 35184372088832)) (by omega)) (Below.refl _ _) (Nat.le_refl _) ?_; intro v410 w10 ho11 hb hg_ hnew_; clear hg_ hnew_; (first | rw [← Ny409.out] at ho11 | (simp only [Int.reduceToNat] at ho11; rw [← Ny409.out] at ho11)); have n0_ := Aside0.mk (Kd.R_elder' (RL HO405) (Kd.R_base ho11) hb); have n1_ := Aside0.mk (Kd.R_elder' (RL HO408) (Kd.R_base ho11) hb); have n2_ := Aside0.mk (Kd.R_lower (Kd.R_new' (Kd.R_new' ho11 (Kd.R_lt (RL HO405))) (Kd.R_lt (RL HO408))) (below_size BL)); have n3_ := Aside0.mk (below_step BL hb); clear HO405; clear HO408; clear HB; have HO405 := n0_; have HO408 := n1_; have HO411 := n2_; have HB := n3_; clear n0_ n1_ n2_ n3_; clear hb ho11)); try go_wp2_with (first | (go_at_call 47; (with_reducible refine (samphireref02_Half.calls k _ _ l0 (wrap64 (2 * (l0.length : Int))) t403 _ ?side1 ?side2 A3.out).mono ?_); (case side1 => repeat (first | exact HR0.out | (with_reducible refine Kd.C_alloc ?_ _) | (with_reducible refine Kd.C_drewN ?_ _) | (with_reducible refine Kd.C_drew ?_))); (case side2 => exact HC0.out); rintro e w8 ⟨v404, rfl, ho0, hb⟩; have n0_ := Aside0.mk (Kd.R_lower ho0 (below_size BL)); have n1_ := Aside0.mk (below_step BL hb); clear HB; have HO405 := n0_; have HB := n1_; clear n0_ n1_; (try clear hb); (try clear hb2); (try clear hk); (try clear hi); (try clear ho0)) | (go_at_call 47; (with_reducible refine (samphireref02_Half.calls k _ _ l1 (wrap64 (2 * (l1.length : Int))) t406 _ ?side1 ?side2 A4.out).mono ?_); (case side1 => exact CB HR1); (case side2 => exact HC1.out); rintro e w9 ⟨v407, rfl, ho0, hb⟩; have n0_ := Aside0.mk (Kd.R_elder' (RL HO405) (Kd.R_base ho0) hb); have n1_ := Aside0.mk (Kd.R_lower (Kd.R_new' ho0 (Kd.R_lt (RL HO405))) (below_size BL)); have n2_ := Aside0.mk (below_step BL hb); clear HO405; clear HB; have HO405 := n0_; have HO408 := n1_; have HB := n2_; clear n0_ n1_ n2_; (try clear hb); (try clear hb2); (try clear hk); (try clear hi); (try clear ho0)) | ((with_reducible refine gate_dst (N := 30) rfl ?_); refine Kd.R_make (Kd.int .u64) _ 37 rfl (N := 30) rfl 57 _ _ rfl ji5 rfl rfl Tryd.underlying57 (.int .u64 0) 8 info37 rfl (by decide) (by omega) 0 (ok := fun _ => True) (okp := fun _ => True) rfl (fun _ hk => hk) trivial (DA) (Nat.le_trans (Nat.mul_le_mul_right _ (DA : ji5.toNat ≤ 35184372088832)) (by omega)) (Below.refl _ _) (Nat.le_refl _) ?_; intro v410 w10 ho11 hb hg_ hnew_; clear hg_ hnew_; (first | rw [← Ny409.out] at ho11 | (simp only [Int.reduceToNat] at ho11; rw [← Ny409.out] at ho11)); have n0_ := Aside0.mk (Kd.R_elder' (RL HO405) (Kd.R_base ho11) hb); have n1_ := Aside0.mk (Kd.R_elder' (RL HO408) (Kd.R_base ho11) hb); have n2_ := Aside0.mk (Kd.R_lower (Kd.R_new' (Kd.R_new' ho11 (Kd.R_lt (RL HO405))) (Kd.R_lt (RL HO408))) (below_size BL)); have n3_ := Aside0.mk (below_step BL hb); clear HO405; clear HO408; clear HB; have HO405 := n0_; have HO408 := n1_; have HO411 := n2_; have HB := n3_; clear n0_ n1_ n2_ n3_; clear hb ho11)))
  go_loopg [10] k (fun kq v10 w' => ∃ (x9_1 : List Int) (x10_1 : Int), v10 = .int .i64 x10_1 ∧ Aside0 (samphireref02_Mul.l0 kq (wrap64 (2 * (l0.length : Int))) (wrap64 (2 * (l1.length : Int))) t403 t406 x9_1 x10_1 = some r) ∧ Aside0 (kq ≤ k) ∧ Aside0 (Kd.R (Kd.int .u64) 37 w' w.heap.size (fun k_ => some k_ ≠ (v407 : Value).ownBlock ∧ some k_ ≠ (v410 : Value).ownBlock) v404 t403) ∧ Aside0 (Kd.R (Kd.int .u64) 37 w' w.heap.size (fun k_ => some k_ ≠ (v404 : Value).ownBlock ∧ some k_ ≠ (v410 : Value).ownBlock) v407 t406) ∧ Aside0 (Kd.R (Kd.int .u64) 37 w' w.heap.size (fun k_ => some k_ ≠ (v404 : Value).ownBlock ∧ some k_ ≠ (v407 : Value).ownBlock) v410 x9_1) ∧ Aside0 (Below w.heap.size w w'))
  case atStart => exact ⟨(y409), (0), (by first | rfl | (simp; done) | (simp [*]; done) | (simp; exact isEmpty_bne _)), H', ⟨Nat.le_refl _⟩, ⟨by (with_reducible repeat (first | apply Kd.R_alloc | apply Kd.R_drewN | apply Kd.R_drew)); exact Kd.R_mono HO405.out (fun _ hk => ⟨hk.1.2, hk.2⟩)⟩, ⟨by (with_reducible repeat (first | apply Kd.R_alloc | apply Kd.R_drewN | apply Kd.R_drew)); exact Kd.R_mono HO408.out (fun _ hk => ⟨hk.1.2, hk.2⟩)⟩, ⟨by (with_reducible repeat (first | apply Kd.R_alloc | apply Kd.R_drewN | apply Kd.R_drew)); exact Kd.R_mono HO411.out (fun _ hk => ⟨hk.1.2, hk.2⟩)⟩, ⟨BL⟩⟩
  case round =>
    clear H'
    try clear c1
    try clear c2
    try clear p2
    try clear c6
    try clear c6b0
    try clear c6b1
    try clear p6
    try clear c7
    try clear c7b0
    try clear c7b1
    obtain ⟨x9_1, x10_1, rfl, HA, HK1, HO_7, HO_8, HO_9, HB⟩ := hrel
    cases gk with
    | zero => exact absurd HA.out (by simp [samphireref02_Mul.l0])
    | succ k1 =>
      have H := HA.out
      clear HA
      simp only [samphireref02_Mul.l0] at H
      by_cases c12 : x10_1 < (wrap64 (2 * (l0.length : Int)))
      · rw [if_pos c12] at H
        have c12b0 : decide (x10_1 < (wrap64 (2 * (l0.length : Int)))) = true := decide_eq_true c12
        clear c12
        have H' := Aside0.mk H
        clear H
        go_wp2
        repeat (go_quiet (fail); try go_wp2)
        go_loopg [11, 12] k1 (fun kq v11 v12 w' => ∃ (x9_2 : List Int) (x11_2 : Int) (x12_2 : Int), v11 = .int .u64 x11_2 ∧ v12 = .int .i64 x12_2 ∧ Aside0 (samphireref02_Mul.l1 kq (wrap64 (2 * (l0.length : Int))) (wrap64 (2 * (l1.length : Int))) t403 t406 x9_2 x10_1 x11_2 x12_2 = some r) ∧ Aside0 (kq ≤ k1) ∧ Aside0 (Kd.R (Kd.int .u64) 37 w' w.heap.size (fun k_ => some k_ ≠ (v407 : Value).ownBlock ∧ some k_ ≠ (v410 : Value).ownBlock) v404 t403) ∧ Aside0 (Kd.R (Kd.int .u64) 37 w' w.heap.size (fun k_ => some k_ ≠ (v404 : Value).ownBlock ∧ some k_ ≠ (v410 : Value).ownBlock) v407 t406) ∧ Aside0 (Kd.R (Kd.int .u64) 37 w' w.heap.size (fun k_ => some k_ ≠ (v404 : Value).ownBlock ∧ some k_ ≠ (v407 : Value).ownBlock) v410 x9_2) ∧ Aside0 (Below w.heap.size w w'))
        case atStart => exact ⟨(x9_1), (0), (0), (by first | rfl | (simp; done) | (simp [*]; done) | (simp; exact isEmpty_bne _)), (by first | rfl | (simp; done) | (simp [*]; done) | (simp; exact isEmpty_bne _)), H', ⟨Nat.le_refl _⟩, ⟨by (with_reducible repeat (first | apply Kd.R_alloc | apply Kd.R_drewN | apply Kd.R_drew)); exact HO_7.out⟩, ⟨by (with_reducible repeat (first | apply Kd.R_alloc | apply Kd.R_drewN | apply Kd.R_drew)); exact HO_8.out⟩, ⟨by (with_reducible repeat (first | apply Kd.R_alloc | apply Kd.R_drewN | apply Kd.R_drew)); exact HO_9.out⟩, ⟨BL⟩⟩
        case round =>
          clear H'
          try clear c1
          try clear c2
          try clear p2
          try clear c6
          try clear c6b0
          try clear c6b1
          try clear p6
          try clear c7
          try clear c7b0
          try clear c7b1
          try clear c12
          try clear c12b0
          try clear p2
          try clear p6
          obtain ⟨x9_2, x11_2, x12_2, rfl, rfl, HA, HK2, HO_7, HO_8, HO_9, HB⟩ := hrel
          cases gk with
          | zero => exact absurd HA.out (by simp [samphireref02_Mul.l1])
          | succ k2 =>
            have H := HA.out
            clear HA
            simp only [samphireref02_Mul.l1] at H
            by_cases c13 : x12_2 < (wrap64 (2 * (l1.length : Int)))
            · rw [if_pos c13] at H
              have c13b0 : decide (x12_2 < (wrap64 (2 * (l1.length : Int)))) = true := decide_eq_true c13
              clear c13
              obtain ⟨ji14, hji14⟩ := let_j (wrap64 (x10_1 + x12_2))
              (first | rw [hji14] at H | simp only [hji14] at H ⊢)
              have hji14w : (IntKind.i64.wrap (x10_1 + x12_2)) = ji14 := (i64_w _).trans hji14
              obtain ⟨c15, H⟩ := ite_p H
              have c15b0 : decide (0 ≤ (ji14)) = true := decide_eq_true c15
              clear c15
              obtain ⟨c16, H⟩ := ite_p H
              have c16b0 : decide ((ji14) < (x9_2.length : Int)) = true := decide_eq_true c16
              clear c16
              obtain ⟨c17, H⟩ := ite_p H
              have c17b0 : decide (0 ≤ x10_1) = true := decide_eq_true c17
              clear c17
              obtain ⟨c18, H⟩ := ite_p H
              have c18b0 : decide (x10_1 < (t403.length : Int)) = true := decide_eq_true c18
              clear c18
              obtain ⟨c19, H⟩ := ite_p H
              have c19b0 : decide (0 ≤ x12_2) = true := decide_eq_true c19
              clear c19
              obtain ⟨c20, H⟩ := ite_p H
              have c20b0 : decide (x12_2 < (t406.length : Int)) = true := decide_eq_true c20
              clear c20
              obtain ⟨y418, Ny418⟩ := let_p (x9_2.set ((ji14) : Int).toNat (Int.tmod (IntKind.u64.wrap ((IntKind.u64.wrap ((rd x9_2 (ji14)) + (IntKind.u64.wrap ((rd t403 x10_1) * (rd t406 x12_2))))) + x11_2)) 65536) : List Int)
              (first | rw [← Ny418.out] at H | simp only [← Ny418.out] at H)
              have H' := Aside0.mk H
              clear H
              obtain ⟨Ao22, co22, eo22⟩ := Kd.R_slice HO_9.out
              subst eo22
              have p415 : 0 ≤ ((ji14) : Int) := DA
              have q415 : (ji14) < (x9_2.length : Int) := DA
              obtain ⟨ad415, e415, hx415_0⟩ := Kd.at_int (Kd.R_reads' HO_9.out).2.2 (ji14) p415 q415
              cases e415
              replace p415 := eq_true p415
              replace q415 := eq_true q415
              obtain ⟨Ao23, co23, eo23⟩ := Kd.R_slice HO_7.out
              subst eo23
              have p416 : 0 ≤ (x10_1 : Int) := DA
              have q416 : x10_1 < (t403.length : Int) := DA
              obtain ⟨ad416, e416, hx416_0⟩ := Kd.at_int (Kd.R_reads' HO_7.out).2.2 x10_1 p416 q416
              cases e416
              replace p416 := eq_true p416
              replace q416 := eq_true q416
              obtain ⟨Ao24, co24, eo24⟩ := Kd.R_slice HO_8.out
              subst eo24
              have p417 : 0 ≤ (x12_2 : Int) := DA
              have q417 : x12_2 < (t406.length : Int) := DA
              obtain ⟨ad417, e417, hx417_0⟩ := Kd.at_int (Kd.R_reads' HO_8.out).2.2 x12_2 p417 q417
              cases e417
              replace p417 := eq_true p417
              replace q417 := eq_true q417
              have p21 : 0 ≤ ((ji14) : Int) := DA
              have q21 : ((ji14) : Int) < ((x9_2.length : Int) : Int) := DA
              obtain ⟨go21, co21, eo21, gb21, gl21, cl21, HG21⟩ := Kd.R_form HO_9.out (by omega)
              (first | cases eo21 | (injection eo21 with ea_ en_ ec_; (first | subst ea_ | (injection ea_ with ea_; subst ea_)); subst ec_; clear en_))
              have GB21 := Aside0.mk gb21
              have GG21 := Aside0.mk HG21
              clear gb21 gl21 HG21
              (first | simp only [add_plain] at hx415_0 | skip)
              obtain ⟨hx21_0, hf21_0⟩ := Kd.R_celln 0 HO_9.out ((ji14) : Int) p21 q21
              replace p21 := eq_true p21
              replace q21 := eq_true q21
              have HP25 := Kd.R_putg HO_9.out ((ji14) : Int) (Int.tmod (IntKind.u64.wrap ((IntKind.u64.wrap ((rd x9_2 (ji14)) + (IntKind.u64.wrap ((rd t403 x10_1) * (rd t406 x12_2))))) + x11_2)) 65536)
              go_wp2_with (first | ((with_reducible refine gate_store (t := 37) (p := 65) rfl ?_); (try (rw [drewN_self wr]; generalize hq_ : World.drewN wr _ = wr; have n0_ := Aside0.mk (Kd.R_at hq_ HO_7.out); have n1_ := Aside0.mk (Kd.R_at hq_ HO_8.out); have n2_ := Aside0.mk (Kd.R_at hq_ HO_9.out); have n3_ := Aside0.mk (below_at hq_ HB.out); clear hq_ HO_7 HO_8 HO_9 HB; have HO_7 := n0_; have HO_8 := n1_; have HO_9 := n2_; have HB := n3_; clear n0_ n1_ n2_ n3_; (try (obtain ⟨hx21_0, hf21_0⟩ := Kd.R_celln 0 HO_9.out ((ji14) : Int) (of_eq_true p21) (of_eq_true q21))); (try (have HP25 := Kd.R_putg HO_9.out ((ji14) : Int) (Int.tmod (IntKind.u64.wrap ((IntKind.u64.wrap ((rd x9_2 (ji14)) + (IntKind.u64.wrap ((rd t403 x10_1) * (rd t406 x12_2))))) + x11_2)) 65536))))); refine store_event (t := 37) (p := 65) (v := ?vo_w26) (w1 := (wr.setCell ⟨go21, ((ji14) : Int).toNat, none⟩ (.int .u64 (Int.tmod (IntKind.u64.wrap ((IntKind.u64.wrap ((rd x9_2 (ji14)) + (IntKind.u64.wrap ((rd t403 x10_1) * (rd t406 x12_2))))) + x11_2)) 65536)))) ?hg ?ho ?hn ?hr ?_; (case ho => rfl); (case hg => rfl); (case hn => rfl); (case hr => first | (go_simp; done) | (go_simp; rfl)); intro w26 hw; have hg : wr.grownBy w26 (some go21) := (by rw [hw]; exact HP25.2); have hp_ : Kd.R (Kd.int .u64) 37 w26 w.heap.size (fun k_ => some k_ ≠ (.slice (some ad416) t403.length co23 : Value).ownBlock ∧ some k_ ≠ (.slice (some ad417) t406.length co24 : Value).ownBlock) (.slice (some ⟨go21, 0, none⟩) x9_2.length co22) y418 := (by rw [hw, Ny418.out]; exact HP25.1); clear HP25; have n0_ := Aside0.mk (Kd.R_after (v := (.slice (some ⟨go21, 0, none⟩) x9_2.length co22)) (v1 := (.slice (some ⟨go21, 0, none⟩) x9_2.length co22)) (ok := (fun k_ => some k_ ≠ (.slice (some ad417) t406.length co24 : Value).ownBlock)) (RL HO_7) hg (.inl rfl)); have n1_ := Aside0.mk (Kd.R_after (v := (.slice (some ⟨go21, 0, none⟩) x9_2.length co22)) (v1 := (.slice (some ⟨go21, 0, none⟩) x9_2.length co22)) (ok := (fun k_ => some k_ ≠ (.slice (some ad416) t403.length co23 : Value).ownBlock)) (RL HO_8) hg (.inl rfl)); have n2_ := Aside0.mk (hp_); have n3_ := Aside0.mk ((by rw [hw]; exact below_set (HB.out) GB21.out : Below w.heap.size w w26)); clear HO_7; clear HO_8; clear HO_9; clear HB; have HO_7 := n0_; have HO_8 := n1_; have HO_9 := n2_; have HB := n3_; clear n0_ n1_ n2_ n3_; clear hg hw hp_))
              repeat (go_quiet (first | ((with_reducible refine gate_store (t := 37) (p := 65) rfl ?_); (try (rw [drewN_self wr]; generalize hq_ : World.drewN wr _ = wr; have n0_ := Aside0.mk (Kd.R_at hq_ HO_7.out); have n1_ := Aside0.mk (Kd.R_at hq_ HO_8.out); have n2_ := Aside0.mk (Kd.R_at hq_ HO_9.out); have n3_ := Aside0.mk (below_at hq_ HB.out); clear hq_ HO_7 HO_8 HO_9 HB; have HO_7 := n0_; have HO_8 := n1_; have HO_9 := n2_; have HB := n3_; clear n0_ n1_ n2_ n3_; (try (obtain ⟨hx21_0, hf21_0⟩ := Kd.R_celln 0 HO_9.out ((ji14) : Int) (of_eq_true p21) (of_eq_true q21))); (try (have HP25 := Kd.R_putg HO_9.out ((ji14) : Int) (Int.tmod (IntKind.u64.wrap ((IntKind.u64.wrap ((rd x9_2 (ji14)) + (IntKind.u64.wrap ((rd t403 x10_1) * (rd t406 x12_2))))) + x11_2)) 65536))))); refine store_event (t := 37) (p := 65) (v := ?vo_w26) (w1 := (wr.setCell ⟨go21, ((ji14) : Int).toNat, none⟩ (.int .u64 (Int.tmod (IntKind.u64.wrap ((IntKind.u64.wrap ((rd x9_2 (ji14)) + (IntKind.u64.wrap ((rd t403 x10_1) * (rd t406 x12_2))))) + x11_2)) 65536)))) ?hg ?ho ?hn ?hr ?_; (case ho => rfl); (case hg => rfl); (case hn => rfl); (case hr => first | (go_simp; done) | (go_simp; rfl)); intro w26 hw; have hg : wr.grownBy w26 (some go21) := (by rw [hw]; exact HP25.2); have hp_ : Kd.R (Kd.int .u64) 37 w26 w.heap.size (fun k_ => some k_ ≠ (.slice (some ad416) t403.length co23 : Value).ownBlock ∧ some k_ ≠ (.slice (some ad417) t406.length co24 : Value).ownBlock) (.slice (some ⟨go21, 0, none⟩) x9_2.length co22) y418 := (by rw [hw, Ny418.out]; exact HP25.1); clear HP25; have n0_ := Aside0.mk (Kd.R_after (v := (.slice (some ⟨go21, 0, none⟩) x9_2.length co22)) (v1 := (.slice (some ⟨go21, 0, none⟩) x9_2.length co22)) (ok := (fun k_ => some k_ ≠ (.slice (some ad417) t406.length co24 : Value).ownBlock)) (RL HO_7) hg (.inl rfl)); have n1_ := Aside0.mk (Kd.R_after (v := (.slice (some ⟨go21, 0, none⟩) x9_2.length co22)) (v1 := (.slice (some ⟨go21, 0, none⟩) x9_2.length co22)) (ok := (fun k_ => some k_ ≠ (.slice (some ad416) t403.length co23 : Value).ownBlock)) (RL HO_8) hg (.inl rfl)); have n2_ := Aside0.mk (hp_); have n3_ := Aside0.mk ((by rw [hw]; exact below_set (HB.out) GB21.out : Below w.heap.size w w26)); clear HO_7; clear HO_8; clear HO_9; clear HB; have HO_7 := n0_; have HO_8 := n1_; have HO_9 := n2_; have HB := n3_; clear n0_ n1_ n2_ n3_; clear hg hw hp_)); try go_wp2_with (first | ((with_reducible refine gate_store (t := 37) (p := 65) rfl ?_); (try (rw [drewN_self wr]; generalize hq_ : World.drewN wr _ = wr; have n0_ := Aside0.mk (Kd.R_at hq_ HO_7.out); have n1_ := Aside0.mk (Kd.R_at hq_ HO_8.out); have n2_ := Aside0.mk (Kd.R_at hq_ HO_9.out); have n3_ := Aside0.mk (below_at hq_ HB.out); clear hq_ HO_7 HO_8 HO_9 HB; have HO_7 := n0_; have HO_8 := n1_; have HO_9 := n2_; have HB := n3_; clear n0_ n1_ n2_ n3_; (try (obtain ⟨hx21_0, hf21_0⟩ := Kd.R_celln 0 HO_9.out ((ji14) : Int) (of_eq_true p21) (of_eq_true q21))); (try (have HP25 := Kd.R_putg HO_9.out ((ji14) : Int) (Int.tmod (IntKind.u64.wrap ((IntKind.u64.wrap ((rd x9_2 (ji14)) + (IntKind.u64.wrap ((rd t403 x10_1) * (rd t406 x12_2))))) + x11_2)) 65536))))); refine store_event (t := 37) (p := 65) (v := ?vo_w26) (w1 := (wr.setCell ⟨go21, ((ji14) : Int).toNat, none⟩ (.int .u64 (Int.tmod (IntKind.u64.wrap ((IntKind.u64.wrap ((rd x9_2 (ji14)) + (IntKind.u64.wrap ((rd t403 x10_1) * (rd t406 x12_2))))) + x11_2)) 65536)))) ?hg ?ho ?hn ?hr ?_; (case ho => rfl); (case hg => rfl); (case hn => rfl); (case hr => first | (go_simp; done) | (go_simp; rfl)); intro w26 hw; have hg : wr.grownBy w26 (some go21) := (by rw [hw]; exact HP25.2); have hp_ : Kd.R (Kd.int .u64) 37 w26 w.heap.size (fun k_ => some k_ ≠ (.slice (some ad416) t403.length co23 : Value).ownBlock ∧ some k_ ≠ (.slice (some ad417) t406.length co24 : Value).ownBlock) (.slice (some ⟨go21, 0, none⟩) x9_2.length co22) y418 := (by rw [hw, Ny418.out]; exact HP25.1); clear HP25; have n0_ := Aside0.mk (Kd.R_after (v := (.slice (some ⟨go21, 0, none⟩) x9_2.length co22)) (v1 := (.slice (some ⟨go21, 0, none⟩) x9_2.length co22)) (ok := (fun k_ => some k_ ≠ (.slice (some ad417) t406.length co24 : Value).ownBlock)) (RL HO_7) hg (.inl rfl)); have n1_ := Aside0.mk (Kd.R_after (v := (.slice (some ⟨go21, 0, none⟩) x9_2.length co22)) (v1 := (.slice (some ⟨go21, 0, none⟩) x9_2.length co22)) (ok := (fun k_ => some k_ ≠ (.slice (some ad416) t403.length co23 : Value).ownBlock)) (RL HO_8) hg (.inl rfl)); have n2_ := Aside0.mk (hp_); have n3_ := Aside0.mk ((by rw [hw]; exact below_set (HB.out) GB21.out : Below w.heap.size w w26)); clear HO_7; clear HO_8; clear HO_9; clear HB; have HO_7 := n0_; have HO_8 := n1_; have HO_9 := n2_; have HB := n3_; clear n0_ n1_ n2_ n3_; clear hg hw hp_)))
              go_roundg k2
              case measure => have := HK1.out; have := HK2.out; omega
              case rel => exact ⟨(y418), (IntKind.u64.wrap (Int.tdiv (IntKind.u64.wrap ((IntKind.u64.wrap ((rd x9_2 (ji14)) + (IntKind.u64.wrap ((rd t403 x10_1) * (rd t406 x12_2))))) + x11_2)) 65536)), (wrap64 (x12_2 + 1)), (by first | rfl | (simp; done) | (simp only [← hji14] <;> (first | rfl | simp)) | (simp [*]; done)), (by first | rfl | (simp; done) | (simp [*]; done) | (simp; exact isEmpty_bne _)), H', ⟨by have := HK1.out; have := HK2.out; omega⟩, ⟨by (with_reducible repeat (first | apply Kd.R_alloc | apply Kd.R_drewN | apply Kd.R_drew)); exact HO_7.out⟩, ⟨by (with_reducible repeat (first | apply Kd.R_alloc | apply Kd.R_drewN | apply Kd.R_drew)); exact HO_8.out⟩, ⟨by (with_reducible repeat (first | apply Kd.R_alloc | apply Kd.R_drewN | apply Kd.R_drew)); exact HO_9.out⟩, ⟨BL⟩⟩
            · rw [if_neg c13] at H
              have c13b0 : decide (x12_2 < (wrap64 (2 * (l1.length : Int)))) = false := decide_eq_false c13
              clear c13
              obtain ⟨ji27, hji27⟩ := let_j (wrap64 (x10_1 + (wrap64 (2 * (l1.length : Int)))))
              (first | rw [hji27] at H | simp only [hji27] at H ⊢)
              have hji27w : (IntKind.i64.wrap (x10_1 + (wrap64 (2 * (l1.length : Int))))) = ji27 := (i64_w _).trans hji27
              obtain ⟨c28, H⟩ := ite_p H
              have c28b0 : decide (0 ≤ (ji27)) = true := decide_eq_true c28
              clear c28
              obtain ⟨c29, H⟩ := ite_p H
              have c29b0 : decide ((ji27) < (x9_2.length : Int)) = true := decide_eq_true c29
              clear c29
              obtain ⟨y420, Ny420⟩ := let_p (x9_2.set ((ji27) : Int).toNat (IntKind.u64.wrap ((rd x9_2 (ji27)) + x11_2)) : List Int)
              (first | rw [← Ny420.out] at H | simp only [← Ny420.out] at H)
              have H' := Aside0.mk H
              clear H
              obtain ⟨Ao31, co31, eo31⟩ := Kd.R_slice HO_9.out
              subst eo31
              have p419 : 0 ≤ ((ji27) : Int) := DA
              have q419 : (ji27) < (x9_2.length : Int) := DA
              obtain ⟨ad419, e419, hx419_0⟩ := Kd.at_int (Kd.R_reads' HO_9.out).2.2 (ji27) p419 q419
              cases e419
              replace p419 := eq_true p419
              replace q419 := eq_true q419
              have p30 : 0 ≤ ((ji27) : Int) := DA
              have q30 : ((ji27) : Int) < ((x9_2.length : Int) : Int) := DA
              obtain ⟨go30, co30, eo30, gb30, gl30, cl30, HG30⟩ := Kd.R_form HO_9.out (by omega)
              (first | cases eo30 | (injection eo30 with ea_ en_ ec_; (first | subst ea_ | (injection ea_ with ea_; subst ea_)); subst ec_; clear en_))
              have GB30 := Aside0.mk gb30
              have GG30 := Aside0.mk HG30
              clear gb30 gl30 HG30
              (first | simp only [add_plain] at hx419_0 | skip)
              obtain ⟨hx30_0, hf30_0⟩ := Kd.R_celln 0 HO_9.out ((ji27) : Int) p30 q30
              replace p30 := eq_true p30
              replace q30 := eq_true q30
              have HP32 := Kd.R_putg HO_9.out ((ji27) : Int) (IntKind.u64.wrap ((rd x9_2 (ji27)) + x11_2))
              go_wp2_with (first | ((with_reducible refine gate_store (t := 37) (p := 76) rfl ?_); (try (rw [drewN_self wr]; generalize hq_ : World.drewN wr _ = wr; have n0_ := Aside0.mk (Kd.R_at hq_ HO_7.out); have n1_ := Aside0.mk (Kd.R_at hq_ HO_8.out); have n2_ := Aside0.mk (Kd.R_at hq_ HO_9.out); have n3_ := Aside0.mk (below_at hq_ HB.out); clear hq_ HO_7 HO_8 HO_9 HB; have HO_7 := n0_; have HO_8 := n1_; have HO_9 := n2_; have HB := n3_; clear n0_ n1_ n2_ n3_; (try (obtain ⟨hx30_0, hf30_0⟩ := Kd.R_celln 0 HO_9.out ((ji27) : Int) (of_eq_true p30) (of_eq_true q30))); (try (have HP32 := Kd.R_putg HO_9.out ((ji27) : Int) (IntKind.u64.wrap ((rd x9_2 (ji27)) + x11_2)))))); refine store_event (t := 37) (p := 76) (v := ?vo_w33) (w1 := (wr.setCell ⟨go30, ((ji27) : Int).toNat, none⟩ (.int .u64 (IntKind.u64.wrap ((rd x9_2 (ji27)) + x11_2))))) ?hg ?ho ?hn ?hr ?_; (case ho => rfl); (case hg => rfl); (case hn => rfl); (case hr => first | (go_simp; done) | (go_simp; rfl)); intro w33 hw; have hg : wr.grownBy w33 (some go30) := (by rw [hw]; exact HP32.2); have hp_ : Kd.R (Kd.int .u64) 37 w33 w.heap.size (fun k_ => some k_ ≠ (v404 : Value).ownBlock ∧ some k_ ≠ (v407 : Value).ownBlock) (.slice (some ⟨go30, 0, none⟩) x9_2.length co31) y420 := (by rw [hw, Ny420.out]; exact HP32.1); clear HP32; have n0_ := Aside0.mk (Kd.R_after (v := (.slice (some ⟨go30, 0, none⟩) x9_2.length co31)) (v1 := (.slice (some ⟨go30, 0, none⟩) x9_2.length co31)) (ok := (fun k_ => some k_ ≠ (v407 : Value).ownBlock)) (RL HO_7) hg (.inl rfl)); have n1_ := Aside0.mk (Kd.R_after (v := (.slice (some ⟨go30, 0, none⟩) x9_2.length co31)) (v1 := (.slice (some ⟨go30, 0, none⟩) x9_2.length co31)) (ok := (fun k_ => some k_ ≠ (v404 : Value).ownBlock)) (RL HO_8) hg (.inl rfl)); have n2_ := Aside0.mk (hp_); have n3_ := Aside0.mk ((by rw [hw]; exact below_set (HB.out) GB30.out : Below w.heap.size w w33)); clear HO_7; clear HO_8; clear HO_9; clear HB; have HO_7 := n0_; have HO_8 := n1_; have HO_9 := n2_; have HB := n3_; clear n0_ n1_ n2_ n3_; clear hg hw hp_))
              repeat (go_quiet (first | ((with_reducible refine gate_store (t := 37) (p := 76) rfl ?_); (try (rw [drewN_self wr]; generalize hq_ : World.drewN wr _ = wr; have n0_ := Aside0.mk (Kd.R_at hq_ HO_7.out); have n1_ := Aside0.mk (Kd.R_at hq_ HO_8.out); have n2_ := Aside0.mk (Kd.R_at hq_ HO_9.out); have n3_ := Aside0.mk (below_at hq_ HB.out); clear hq_ HO_7 HO_8 HO_9 HB; have HO_7 := n0_; have HO_8 := n1_; have HO_9 := n2_; have HB := n3_; clear n0_ n1_ n2_ n3_; (try (obtain ⟨hx30_0, hf30_0⟩ := Kd.R_celln 0 HO_9.out ((ji27) : Int) (of_eq_true p30) (of_eq_true q30))); (try (have HP32 := Kd.R_putg HO_9.out ((ji27) : Int) (IntKind.u64.wrap ((rd x9_2 (ji27)) + x11_2)))))); refine store_event (t := 37) (p := 76) (v := ?vo_w33) (w1 := (wr.setCell ⟨go30, ((ji27) : Int).toNat, none⟩ (.int .u64 (IntKind.u64.wrap ((rd x9_2 (ji27)) + x11_2))))) ?hg ?ho ?hn ?hr ?_; (case ho => rfl); (case hg => rfl); (case hn => rfl); (case hr => first | (go_simp; done) | (go_simp; rfl)); intro w33 hw; have hg : wr.grownBy w33 (some go30) := (by rw [hw]; exact HP32.2); have hp_ : Kd.R (Kd.int .u64) 37 w33 w.heap.size (fun k_ => some k_ ≠ (v404 : Value).ownBlock ∧ some k_ ≠ (v407 : Value).ownBlock) (.slice (some ⟨go30, 0, none⟩) x9_2.length co31) y420 := (by rw [hw, Ny420.out]; exact HP32.1); clear HP32; have n0_ := Aside0.mk (Kd.R_after (v := (.slice (some ⟨go30, 0, none⟩) x9_2.length co31)) (v1 := (.slice (some ⟨go30, 0, none⟩) x9_2.length co31)) (ok := (fun k_ => some k_ ≠ (v407 : Value).ownBlock)) (RL HO_7) hg (.inl rfl)); have n1_ := Aside0.mk (Kd.R_after (v := (.slice (some ⟨go30, 0, none⟩) x9_2.length co31)) (v1 := (.slice (some ⟨go30, 0, none⟩) x9_2.length co31)) (ok := (fun k_ => some k_ ≠ (v404 : Value).ownBlock)) (RL HO_8) hg (.inl rfl)); have n2_ := Aside0.mk (hp_); have n3_ := Aside0.mk ((by rw [hw]; exact below_set (HB.out) GB30.out : Below w.heap.size w w33)); clear HO_7; clear HO_8; clear HO_9; clear HB; have HO_7 := n0_; have HO_8 := n1_; have HO_9 := n2_; have HB := n3_; clear n0_ n1_ n2_ n3_; clear hg hw hp_)); try go_wp2_with (first | ((with_reducible refine gate_store (t := 37) (p := 76) rfl ?_); (try (rw [drewN_self wr]; generalize hq_ : World.drewN wr _ = wr; have n0_ := Aside0.mk (Kd.R_at hq_ HO_7.out); have n1_ := Aside0.mk (Kd.R_at hq_ HO_8.out); have n2_ := Aside0.mk (Kd.R_at hq_ HO_9.out); have n3_ := Aside0.mk (below_at hq_ HB.out); clear hq_ HO_7 HO_8 HO_9 HB; have HO_7 := n0_; have HO_8 := n1_; have HO_9 := n2_; have HB := n3_; clear n0_ n1_ n2_ n3_; (try (obtain ⟨hx30_0, hf30_0⟩ := Kd.R_celln 0 HO_9.out ((ji27) : Int) (of_eq_true p30) (of_eq_true q30))); (try (have HP32 := Kd.R_putg HO_9.out ((ji27) : Int) (IntKind.u64.wrap ((rd x9_2 (ji27)) + x11_2)))))); refine store_event (t := 37) (p := 76) (v := ?vo_w33) (w1 := (wr.setCell ⟨go30, ((ji27) : Int).toNat, none⟩ (.int .u64 (IntKind.u64.wrap ((rd x9_2 (ji27)) + x11_2))))) ?hg ?ho ?hn ?hr ?_; (case ho => rfl); (case hg => rfl); (case hn => rfl); (case hr => first | (go_simp; done) | (go_simp; rfl)); intro w33 hw; have hg : wr.grownBy w33 (some go30) := (by rw [hw]; exact HP32.2); have hp_ : Kd.R (Kd.int .u64) 37 w33 w.heap.size (fun k_ => some k_ ≠ (v404 : Value).ownBlock ∧ some k_ ≠ (v407 : Value).ownBlock) (.slice (some ⟨go30, 0, none⟩) x9_2.length co31) y420 := (by rw [hw, Ny420.out]; exact HP32.1); clear HP32; have n0_ := Aside0.mk (Kd.R_after (v := (.slice (some ⟨go30, 0, none⟩) x9_2.length co31)) (v1 := (.slice (some ⟨go30, 0, none⟩) x9_2.length co31)) (ok := (fun k_ => some k_ ≠ (v407 : Value).ownBlock)) (RL HO_7) hg (.inl rfl)); have n1_ := Aside0.mk (Kd.R_after (v := (.slice (some ⟨go30, 0, none⟩) x9_2.length co31)) (v1 := (.slice (some ⟨go30, 0, none⟩) x9_2.length co31)) (ok := (fun k_ => some k_ ≠ (v404 : Value).ownBlock)) (RL HO_8) hg (.inl rfl)); have n2_ := Aside0.mk (hp_); have n3_ := Aside0.mk ((by rw [hw]; exact below_set (HB.out) GB30.out : Below w.heap.size w w33)); clear HO_7; clear HO_8; clear HO_9; clear HB; have HO_7 := n0_; have HO_8 := n1_; have HO_9 := n2_; have HB := n3_; clear n0_ n1_ n2_ n3_; clear hg hw hp_)))
              go_roundg k2
              case measure => have := HK1.out; have := HK2.out; omega
              case rel => exact ⟨(y420), (wrap64 (x10_1 + 1)), (by first | rfl | (simp; done) | (simp [*]; done) | (simp; exact isEmpty_bne _)), H', ⟨by have := HK1.out; have := HK2.out; omega⟩, ⟨by (with_reducible repeat (first | apply Kd.R_alloc | apply Kd.R_drewN | apply Kd.R_drew)); exact HO_7.out⟩, ⟨by (with_reducible repeat (first | apply Kd.R_alloc | apply Kd.R_drewN | apply Kd.R_drew)); exact HO_8.out⟩, ⟨by (with_reducible repeat (first | apply Kd.R_alloc | apply Kd.R_drewN | apply Kd.R_drew)); exact HO_9.out⟩, ⟨BL⟩⟩
      · rw [if_neg c12] at H
        have c12b0 : decide (x10_1 < (wrap64 (2 * (l0.length : Int)))) = false := decide_eq_false c12
        clear c12
        obtain ⟨t412, A34, H⟩ := bind_p H
        obtain rfl := Option.some.inj H
        obtain ⟨Ao35, co35, eo35⟩ := Kd.R_slice HO_9.out
        subst eo35
        go_wp2_with (first | (go_at_call 48; (with_reducible refine (samphireref02_Whole.calls k1 _ _ x9_1 t412 _ ?side1 ?side2 A34.out).mono ?_); (case side1 => exact RR HO_9); (case side2 => exact (Kd.R_reads' HO_9.out).2.1); rintro e w36 ⟨v413, rfl, ho0, hb⟩; have n0_ := Aside0.mk (Kd.R_below (RL HO_7) hb); have n1_ := Aside0.mk (Kd.R_below (RL HO_8) hb); have n2_ := Aside0.mk (Kd.R_below (RL HO_9) hb); have n3_ := Aside0.mk (Kd.R_lower ho0 (below_size BL)); have n4_ := Aside0.mk (below_step BL hb); clear HO_7; clear HO_8; clear HO_9; clear HB; have HO_7 := n0_; have HO_8 := n1_; have HO_9 := n2_; have HO414 := n3_; have HB := n4_; clear n0_ n1_ n2_ n3_ n4_; (try clear hb); (try clear hb2); (try clear hk); (try clear hi); (try clear ho0)))
        repeat (go_quiet (first | (go_at_call 48; (with_reducible refine (samphireref02_Whole.calls k1 _ _ x9_1 t412 _ ?side1 ?side2 A34.out).mono ?_); (case side1 => exact RR HO_9); (case side2 => exact (Kd.R_reads' HO_9.out).2.1); rintro e w36 ⟨v413, rfl, ho0, hb⟩; have n0_ := Aside0.mk (Kd.R_below (RL HO_7) hb); have n1_ := Aside0.mk (Kd.R_below (RL HO_8) hb); have n2_ := Aside0.mk (Kd.R_below (RL HO_9) hb); have n3_ := Aside0.mk (Kd.R_lower ho0 (below_size BL)); have n4_ := Aside0.mk (below_step BL hb); clear HO_7; clear HO_8; clear HO_9; clear HB; have HO_7 := n0_; have HO_8 := n1_; have HO_9 := n2_; have HO414 := n3_; have HB := n4_; clear n0_ n1_ n2_ n3_ n4_; (try clear hb); (try clear hb2); (try clear hk); (try clear hi); (try clear ho0))); try go_wp2_with (first | (go_at_call 48; (with_reducible refine (samphireref02_Whole.calls k1 _ _ x9_1 t412 _ ?side1 ?side2 A34.out).mono ?_); (case side1 => exact RR HO_9); (case side2 => exact (Kd.R_reads' HO_9.out).2.1); rintro e w36 ⟨v413, rfl, ho0, hb⟩; have n0_ := Aside0.mk (Kd.R_below (RL HO_7) hb); have n1_ := Aside0.mk (Kd.R_below (RL HO_8) hb); have n2_ := Aside0.mk (Kd.R_below (RL HO_9) hb); have n3_ := Aside0.mk (Kd.R_lower ho0 (below_size BL)); have n4_ := Aside0.mk (below_step BL hb); clear HO_7; clear HO_8; clear HO_9; clear HB; have HO_7 := n0_; have HO_8 := n1_; have HO_9 := n2_; have HO414 := n3_; have HB := n4_; clear n0_ n1_ n2_ n3_ n4_; (try clear hb); (try clear hb2); (try clear hk); (try clear hi); (try clear ho0))))
        go_ret
        exact ⟨_, by first | rfl | (simp [errW_none, errW_some] <;> rfl) | (simp only [← hji5]; first | rfl | (simp [errW_none, errW_some] <;> rfl)) | (simp [*, errW_none, errW_some] <;> rfl), by (with_reducible repeat (first | apply Kd.R_alloc | apply Kd.R_drewN | apply Kd.R_drew)); exact HO414.out, BL⟩

/-! ### samphireref02_Read: function 23 -/
set_option maxHeartbeats 8000000 in
set_option maxRecDepth 100000 in
theorem samphireref02_Read.calls (k : Nat) (a0 : ByteArray) (r1 : List Int) (r2 : Int) (w : World) (h : samphireref02_Read.f k a0 = some (r1, r2)) :
    Calls Tryd.prog 23 #[.string a0] w fun e w' => ∃ v0_ : Value, e = .returned (.tuple #[v0_, .int .i64 r2]) ∧ Kd.R (Kd.int .u32) 36 w' w.heap.size (fun _ => True) v0_ r1 ∧ Below w.heap.size w w' := by
  have HB := Aside0.mk (Below.refl w.heap.size w)
  have H : (if (a0.size : Int) = 0 then (samphireref02_Read.j0 k a0 true) else (if 0 < (a0.size : Int) then (if (bt a0 0) = 48 then (samphireref02_Read.j0 k a0 (decide ((a0.size : Int) > 1))) else (samphireref02_Read.j0 k a0 false)) else (none))) = some (r1, r2) := h
  clear h
  have HC2 := Aside0.mk H
  clear H
  go_enter Tryd.func23, Tryd.ntmps23
  go_upto_region 1 with (fail)
  go_cut [19] (fun v19 wc => ∃ (kq : Nat) (x19_1 : Bool), v19 = .bool x19_1 ∧ Aside0 (samphireref02_Read.j0 kq a0 x19_1 = some (r1, r2)) ∧ Aside0 (kq ≤ k) ∧ Aside0 (Below w.heap.size w wc))
  case first =>
    have H := HC2.out
    clear HC2
    by_cases c3 : (a0.size : Int) = 0
    · rw [if_pos c3] at H
      have c3b0 : ((a0.size : Int) == 0) = true := beq_iff_eq.mpr c3
      have c3b1 : ((a0.size : Int) != 0) = false := bne_eq_false_iff_eq.mpr c3
      clear c3
      (first | rw [c3b0] | (simp only [i64_w, i32_w]; rw [c3b0]) | skip)
      have H' := Aside0.mk H
      clear H
      go_wp2
      go_meet
      case rel => exact ⟨_, (true), (by first | rfl | (simp; done) | (simp [*]; done) | (simp; exact isEmpty_bne _)), H', ⟨by first | omega | exact Nat.le_refl _⟩, ⟨BL⟩⟩
    · rw [if_neg c3] at H
      have c3b0 : ((a0.size : Int) == 0) = false := beq_eq_false_iff_ne.mpr c3
      have c3b1 : ((a0.size : Int) != 0) = true := bne_iff_ne.mpr c3
      (first | rw [c3b0] | (simp only [i64_w, i32_w]; rw [c3b0]) | skip)
      obtain ⟨c4, H⟩ := ite_p H
      have c4b0 : decide (0 < (a0.size : Int)) = true := decide_eq_true c4
      have c4b1 : decide (0 < a0.size) = true := decide_eq_true (by omega)
      clear c4
      by_cases c6 : (bt a0 0) = 48
      · rw [if_pos c6] at H
        have c6b0 : ((bt a0 0) == 48) = true := beq_iff_eq.mpr c6
        have c6b1 : ((bt a0 0) != 48) = false := bne_eq_false_iff_eq.mpr c6
        clear c6
        have H' := Aside0.mk H
        clear H
        have p5 : 0 ≤ (0 : Int) := (by omega)
        have q5 : 0 < a0.size := (by have : (0 : Int) < (a0.size : Int) := DA; omega)
        have hx5 : ∀ h : 0 < a0.size, ((a0[0]'h).toNat : Int) = bt a0 0 := bt_at a0 0
        clear p5
        have qi5 : (0 < (a0.size : Int)) = True := eq_true (DA)
        replace q5 := eq_true q5
        go_wp2
        go_meet
        case rel => exact ⟨_, (decide ((a0.size : Int) > 1)), (by first | rfl | (simp; done) | (simp [*]; done) | (simp; exact isEmpty_bne _)), H', ⟨by first | omega | exact Nat.le_refl _⟩, ⟨BL⟩⟩
      · rw [if_neg c6] at H
        have c6b0 : ((bt a0 0) == 48) = false := beq_eq_false_iff_ne.mpr c6
        have c6b1 : ((bt a0 0) != 48) = true := bne_iff_ne.mpr c6
        have H' := Aside0.mk H
        clear H
        have p5 : 0 ≤ (0 : Int) := (by omega)
        have q5 : 0 < a0.size := (by have : (0 : Int) < (a0.size : Int) := DA; omega)
        have hx5 : ∀ h : 0 < a0.size, ((a0[0]'h).toNat : Int) = bt a0 0 := bt_at a0 0
        clear p5
        have qi5 : (0 < (a0.size : Int)) = True := eq_true (DA)
        replace q5 := eq_true q5
        go_wp2
        go_meet
        case rel => exact ⟨_, (false), (by first | rfl | (simp; done) | (simp [*]; done) | (simp; exact isEmpty_bne _)), H', ⟨by first | omega | exact Nat.le_refl _⟩, ⟨BL⟩⟩
  case rest =>
    clear HC2
    try clear c2
    try clear p2
    try clear c3
    try clear c3b0
    try clear c3b1
    try clear c4
    try clear c4b0
    try clear c4b1
    try clear p5
    try clear q5
    try clear hx5
    try clear qi5
    try clear c6
    try clear c6b0
    try clear c6b1
    try clear p5
    try clear q5
    obtain ⟨kq, x19_1, rfl, HA, HJ1, HB⟩ := hcut
    cases kq with
    | zero => exact absurd HA.out (by simp [samphireref02_Read.j0])
    | succ kj1 =>
      have H := HA.out
      clear HA
      simp only [samphireref02_Read.j0] at H
      by_cases c7 : x19_1 = true
      · subst c7
        have H1 : (some (([] : List Int), 2)) = some (r1, r2) := by rw [if_pos rfl] at H; exact H
        clear H
        have H := H1
        clear H1
        simp only [Option.some.injEq, Prod.mk.injEq] at H
        obtain ⟨rfl, rfl⟩ := H
        go_wp2
        go_ret2
        exact ⟨_, by first | rfl | (simp [errW_none, errW_some] <;> rfl) | (simp [*, errW_none, errW_some] <;> rfl), by first | exact Kd.R_nil _ _ _ _ _ | exact Kd.N_nil _ _ _ _ _ | exact Kd.V_nil _ _ _ _ _ | exact Kd.Q_nil _ _ _ _ _ | exact Kd.S_nil _ _ _ _ _, BL⟩
      · replace c7 := Bool.eq_false_iff.mpr c7
        subst c7
        have H1 : (samphireref02_Read.l0 kj1 a0 0) = some (r1, r2) := by rw [if_neg (show ¬ (false = true) by decide)] at H; exact H
        clear H
        have H := H1
        clear H1
        have H' := Aside0.mk H
        clear H
        go_wp2
        go_loopg [4] kj1 (fun kq v4 w' => ∃ (x4_2 : Int), v4 = .int .i64 x4_2 ∧ Aside0 (samphireref02_Read.l0 kq a0 x4_2 = some (r1, r2)) ∧ Aside0 (kq ≤ kj1) ∧ Aside0 (Below w.heap.size w w'))
        case atStart => exact ⟨(0), (by first | rfl | (simp; done) | (simp [*]; done) | (simp; exact isEmpty_bne _)), H', ⟨Nat.le_refl _⟩, ⟨BL⟩⟩
        case round =>
          clear H'
          try clear c2
          try clear p2
          try clear c3
          try clear c3b0
          try clear c3b1
          try clear c4
          try clear c4b0
          try clear c4b1
          try clear p5
          try clear q5
          try clear hx5
          try clear qi5
          try clear c6
          try clear c6b0
          try clear c6b1
          try clear c7
          try clear p2
          try clear p5
          try clear q5
          obtain ⟨x4_2, rfl, HA, HK2, HB⟩ := hrel
          cases gk with
          | zero => exact absurd HA.out (by simp [samphireref02_Read.l0])
          | succ k2 =>
            have H := HA.out
            clear HA
            simp only [samphireref02_Read.l0] at H
            by_cases c8 : x4_2 < (a0.size : Int)
            · rw [if_pos c8] at H
              have c8b0 : decide (x4_2 < (a0.size : Int)) = true := decide_eq_true c8
              clear c8
              obtain ⟨c9, H⟩ := ite_p H
              have c9b0 : decide (0 ≤ x4_2) = true := decide_eq_true c9
              clear c9
              by_cases c11 : (bt a0 x4_2) < 48
              · rw [if_pos c11] at H
                have c11b0 : decide ((bt a0 x4_2) < 48) = true := decide_eq_true c11
                clear c11
                simp only [Option.some.injEq, Prod.mk.injEq] at H
                obtain ⟨rfl, rfl⟩ := H
                have p10 : 0 ≤ (x4_2 : Int) := DA
                have q10 : x4_2 < (a0.size : Int) := DA
                have hx10 := bt_at a0 x4_2
                replace p10 := eq_true p10
                replace q10 := eq_true q10
                go_wp2
                go_ret2
                exact ⟨_, by first | rfl | (simp [errW_none, errW_some] <;> rfl) | (simp [*, errW_none, errW_some] <;> rfl), by first | exact Kd.R_nil _ _ _ _ _ | exact Kd.N_nil _ _ _ _ _ | exact Kd.V_nil _ _ _ _ _ | exact Kd.Q_nil _ _ _ _ _ | exact Kd.S_nil _ _ _ _ _, BL⟩
              · rw [if_neg c11] at H
                have c11b0 : decide ((bt a0 x4_2) < 48) = false := decide_eq_false c11
                clear c11
                by_cases c13 : (bt a0 x4_2) > 57
                · rw [if_pos c13] at H
                  have c13b0 : decide (57 < (bt a0 x4_2)) = true := decide_eq_true c13
                  clear c13
                  simp only [Option.some.injEq, Prod.mk.injEq] at H
                  obtain ⟨rfl, rfl⟩ := H
                  have p10 : 0 ≤ (x4_2 : Int) := DA
                  have q10 : x4_2 < (a0.size : Int) := DA
                  have hx10 := bt_at a0 x4_2
                  replace p10 := eq_true p10
                  replace q10 := eq_true q10
                  have p12 : 0 ≤ (x4_2 : Int) := DA
                  have q12 : x4_2 < (a0.size : Int) := DA
                  have hx12 := bt_at a0 x4_2
                  replace p12 := eq_true p12
                  replace q12 := eq_true q12
                  go_wp2
                  go_ret2
                  exact ⟨_, by first | rfl | (simp [errW_none, errW_some] <;> rfl) | (simp [*, errW_none, errW_some] <;> rfl), by first | exact Kd.R_nil _ _ _ _ _ | exact Kd.N_nil _ _ _ _ _ | exact Kd.V_nil _ _ _ _ _ | exact Kd.Q_nil _ _ _ _ _ | exact Kd.S_nil _ _ _ _ _, BL⟩
                · rw [if_neg c13] at H
                  have c13b0 : decide (57 < (bt a0 x4_2)) = false := decide_eq_false c13
                  clear c13
                  have H' := Aside0.mk H
                  clear H
                  have p10 : 0 ≤ (x4_2 : Int) := DA
                  have q10 : x4_2 < (a0.size : Int) := DA
                  have hx10 := bt_at a0 x4_2
                  replace p10 := eq_true p10
                  replace q10 := eq_true q10
                  have p12 : 0 ≤ (x4_2 : Int) := DA
                  have q12 : x4_2 < (a0.size : Int) := DA
                  have hx12 := bt_at a0 x4_2
                  replace p12 := eq_true p12
                  replace q12 := eq_true q12
                  go_wp2
                  go_roundg k2
                  case measure => have := HJ1.out; have := HK2.out; omega
                  case rel => exact ⟨(wrap64 (x4_2 + 1)), (by first | rfl | (simp; done) | (simp [*]; done) | (simp; exact isEmpty_bne _)), H', ⟨by have := HJ1.out; have := HK2.out; omega⟩, ⟨BL⟩⟩
            · rw [if_neg c8] at H
              have c8b0 : decide (x4_2 < (a0.size : Int)) = false := decide_eq_false c8
              clear c8
              by_cases c14 : (a0.size : Int) > 700
              · rw [if_pos c14] at H
                have c14b0 : decide (700 < (a0.size : Int)) = true := decide_eq_true c14
                have c14b1 : decide (700 < a0.size) = true := decide_eq_true (by omega)
                clear c14
                simp only [Option.some.injEq, Prod.mk.injEq] at H
                obtain ⟨rfl, rfl⟩ := H
                go_wp2
                go_ret2
                exact ⟨_, by first | rfl | (simp [errW_none, errW_some] <;> rfl) | (simp [*, errW_none, errW_some] <;> rfl), by first | exact Kd.R_nil _ _ _ _ _ | exact Kd.N_nil _ _ _ _ _ | exact Kd.V_nil _ _ _ _ _ | exact Kd.Q_nil _ _ _ _ _ | exact Kd.S_nil _ _ _ _ _, BL⟩
              · rw [if_neg c14] at H
                have c14b0 : decide (700 < (a0.size : Int)) = false := decide_eq_false c14
                have c14b1 : decide (700 < a0.size) = false := decide_eq_false (by omega)
                clear c14
                have H' := Aside0.mk H
                clear H
                go_wp2
                go_loopg [5, 6] k2 (fun kq v5 v6 w' => ∃ (x5_3 : List Int) (x6_3 : Int), v6 = .int .i64 x6_3 ∧ Aside0 (samphireref02_Read.l1 kq a0 x5_3 x6_3 = some (r1, r2)) ∧ Aside0 (kq ≤ k2) ∧ Aside0 (Kd.R (Kd.int .u32) 36 w' w.heap.size (fun _ => True) v5 x5_3) ∧ Aside0 (Below w.heap.size w w'))
                case atStart => exact ⟨(([] : List Int)), (0), (by first | rfl | (simp; done) | (simp [*]; done) | (simp; exact isEmpty_bne _)), H', ⟨Nat.le_refl _⟩, ⟨by first | exact Kd.R_nil _ _ _ _ _ | exact Kd.N_nil _ _ _ _ _ | exact Kd.V_nil _ _ _ _ _ | exact Kd.Q_nil _ _ _ _ _ | exact Kd.S_nil _ _ _ _ _⟩, ⟨BL⟩⟩
                case round =>
                  clear H'
                  try clear c1
                  try clear p1
                  try clear q1
                  try clear hx1
                  try clear c2
                  try clear p2
                  try clear c3
                  try clear c3b0
                  try clear c3b1
                  try clear c4
                  try clear c4b0
                  try clear c4b1
                  try clear p5
                  try clear q5
                  try clear hx5
                  try clear qi5
                  try clear c6
                  try clear c6b0
                  try clear c6b1
                  try clear p6
                  try clear c7
                  try clear c8
                  try clear c8b0
                  try clear c9
                  try clear c9b0
                  try clear p10
                  try clear q10
                  try clear hx10
                  try clear c11
                  try clear c11b0
                  try clear p12
                  try clear q12
                  try clear hx12
                  try clear c13
                  try clear c13b0
                  try clear c14
                  try clear c14b0
                  try clear c14b1
                  try clear p10
                  try clear p12
                  try clear p2
                  try clear p5
                  try clear q10
                  try clear q12
                  try clear q5
                  obtain ⟨x5_3, x6_3, rfl, HA, HK3, HO_5, HB⟩ := hrel
                  cases gk with
                  | zero => exact absurd HA.out (by simp [samphireref02_Read.l1])
                  | succ k3 =>
                    have H := HA.out
                    clear HA
                    simp only [samphireref02_Read.l1] at H
                    by_cases c15 : x6_3 < (a0.size : Int)
                    · rw [if_pos c15] at H
                      have c15b0 : decide (x6_3 < (a0.size : Int)) = true := decide_eq_true c15
                      clear c15
                      obtain ⟨y421, Ny421⟩ := let_p (([10] : List Int) : List Int)
                      (first | rw [← Ny421.out] at H | simp only [← Ny421.out] at H)
                      obtain ⟨t424, A16, H⟩ := bind_p H
                      obtain ⟨c17, H⟩ := ite_p H
                      have c17b0 : decide (0 ≤ x6_3) = true := decide_eq_true c17
                      clear c17
                      by_cases c19 : (bt a0 x6_3) = 48
                      · rw [if_pos c19] at H
                        have c19b0 : ((bt a0 x6_3) == 48) = true := beq_iff_eq.mpr c19
                        have c19b1 : ((bt a0 x6_3) != 48) = false := bne_eq_false_iff_eq.mpr c19
                        clear c19
                        have H' := Aside0.mk H
                        clear H
                        go_wp2_with (first | ((with_reducible refine gate_dst (N := 46) rfl ?_); (try (refine gate_guard (by rfl) ?_; dsimp only)); refine Kd.R_lit (Kd.int .u32) _ 36 ?hg (N := 46) ?hd (xs := ([10] : List Int)) (inner := [.int .u32 10]) (ok := fun _ => True) (okp := fun _ => True) ?hr ?hp (fun _ hk => hk) trivial (Below.refl _ _) (Nat.le_refl _) (by simp) ?_; (case hd => rfl); (case hg => rfl); (case hr => first | (go_simp; done) | (go_simp; rfl)); (case hp => exact (Reps.one (show Kd.M (Kd.int .u32) _ _ _ 10 [.int .u32 10] from rfl) (Reps.none _ _))); intro v422 w20 ho21 hb hg_ hnew_; clear hg_ hnew_; (first | rw [← Ny421.out] at ho21 | (simp only [Int.reduceToNat] at ho21; rw [← Ny421.out] at ho21)); have n0_ := Aside0.mk (Kd.R_elder' (RL HO_5) (Kd.R_base ho21) hb); have n1_ := Aside0.mk (Kd.R_lower (Kd.R_new' ho21 (Kd.R_lt (RL HO_5))) (below_size BL)); have n2_ := Aside0.mk (below_step BL hb); clear HO_5; clear HB; have HO_5 := n0_; have HO423 := n1_; have HB := n2_; clear n0_ n1_ n2_; clear hb ho21; obtain ⟨Ao22, co22, eo22⟩ := Kd.R_slice HO_5.out; subst eo22; obtain ⟨Ao23, co23, eo23⟩ := Kd.R_slice HO423.out; subst eo23) | ((with_reducible refine gate_callee (f := 26) rfl ?_); refine goesL_ (some 47) rfl rfl Tryd.func26 (by kernel_rfl) rfl #[.slice Ao22 x5_3.length co22, .slice Ao23 y421.length co23] rfl EQ ?_; (with_reducible refine (samphireref02_Mul.calls k3 _ _ x5_3 _ _ y421 t424 _ ?side1 ?side2 ?side3 ?side4 A16.out).mono ?_); (case side1 => exact RR HO_5); (case side2 => exact (Kd.R_reads' HO_5.out).2.1); (case side3 => exact RR HO423); (case side4 => exact (Kd.R_reads' HO423.out).2.1); rintro e w24 ⟨v425, rfl, ho0, hb⟩; refine ⟨_, rfl, ?_⟩; have n0_ := Aside0.mk (Kd.R_elder' (RL HO_5) (Kd.R_base ho0) hb); have n1_ := Aside0.mk (Kd.R_elder' (RL HO423) (Kd.R_base ho0) hb); have n2_ := Aside0.mk (Kd.R_lower (Kd.R_new' (Kd.R_new' ho0 (Kd.R_lt (RL HO_5))) (Kd.R_lt (RL HO423))) (below_size BL)); have n3_ := Aside0.mk (below_step BL hb); clear HO_5; clear HO423; clear HB; have HO_5 := n0_; have HO423 := n1_; have HO426 := n2_; have HB := n3_; clear n0_ n1_ n2_ n3_; (try clear hb); (try clear hb2); (try clear hk); (try clear hi); (try clear ho0); have p18 : 0 ≤ (x6_3 : Int) := DA; have q18 : x6_3 < (a0.size : Int) := DA; have hx18 := bt_at a0 x6_3; replace p18 := eq_true p18; replace q18 := eq_true q18))
                        go_roundg k3
                        case measure => have := HJ1.out; have := HK2.out; have := HK3.out; omega
                        case rel => exact ⟨(t424), (wrap64 (x6_3 + 1)), (by first | rfl | (simp; done) | (simp [*]; done) | (simp; exact isEmpty_bne _)), H', ⟨by have := HJ1.out; have := HK2.out; have := HK3.out; omega⟩, ⟨by (with_reducible repeat (first | apply Kd.R_alloc | apply Kd.R_drewN | apply Kd.R_drew)); exact Kd.R_mono HO426.out (fun _ hk => trivial)⟩, ⟨BL⟩⟩
                      · rw [if_neg c19] at H
                        have c19b0 : ((bt a0 x6_3) == 48) = false := beq_eq_false_iff_ne.mpr c19
                        have c19b1 : ((bt a0 x6_3) != 48) = true := bne_iff_ne.mpr c19
                        obtain ⟨y427, Ny427⟩ := let_p (([((bt a0 x6_3) - 48) % 256] : List Int) : List Int)
                        (first | rw [← Ny427.out] at H | simp only [← Ny427.out] at H)
                        obtain ⟨t430, A26, H⟩ := bind_p H
                        have H' := Aside0.mk H
                        clear H
                        go_wp2_with (first | ((with_reducible refine gate_dst (N := 46) rfl ?_); (try (refine gate_guard (by rfl) ?_; dsimp only)); refine Kd.R_lit (Kd.int .u32) _ 36 ?hg (N := 46) ?hd (xs := ([10] : List Int)) (inner := [.int .u32 10]) (ok := fun _ => True) (okp := fun _ => True) ?hr ?hp (fun _ hk => hk) trivial (Below.refl _ _) (Nat.le_refl _) (by simp) ?_; (case hd => rfl); (case hg => rfl); (case hr => first | (go_simp; done) | (go_simp; rfl)); (case hp => exact (Reps.one (show Kd.M (Kd.int .u32) _ _ _ 10 [.int .u32 10] from rfl) (Reps.none _ _))); intro v422 w27 ho28 hb hg_ hnew_; clear hg_ hnew_; (first | rw [← Ny421.out] at ho28 | (simp only [Int.reduceToNat] at ho28; rw [← Ny421.out] at ho28)); have n0_ := Aside0.mk (Kd.R_elder' (RL HO_5) (Kd.R_base ho28) hb); have n1_ := Aside0.mk (Kd.R_lower (Kd.R_new' ho28 (Kd.R_lt (RL HO_5))) (below_size BL)); have n2_ := Aside0.mk (below_step BL hb); clear HO_5; clear HB; have HO_5 := n0_; have HO423 := n1_; have HB := n2_; clear n0_ n1_ n2_; clear hb ho28; obtain ⟨Ao29, co29, eo29⟩ := Kd.R_slice HO_5.out; subst eo29; obtain ⟨Ao30, co30, eo30⟩ := Kd.R_slice HO423.out; subst eo30) | ((with_reducible refine gate_callee (f := 26) rfl ?_); refine goesL_ (some 47) rfl rfl Tryd.func26 (by kernel_rfl) rfl #[.slice Ao29 x5_3.length co29, .slice Ao30 y421.length co30] rfl EQ ?_; (with_reducible refine (samphireref02_Mul.calls k3 _ _ x5_3 _ _ y421 t424 _ ?side1 ?side2 ?side3 ?side4 A16.out).mono ?_); (case side1 => exact RR HO_5); (case side2 => exact (Kd.R_reads' HO_5.out).2.1); (case side3 => exact RR HO423); (case side4 => exact (Kd.R_reads' HO423.out).2.1); rintro e w31 ⟨v425, rfl, ho0, hb⟩; refine ⟨_, rfl, ?_⟩; have n0_ := Aside0.mk (Kd.R_elder' (RL HO_5) (Kd.R_base ho0) hb); have n1_ := Aside0.mk (Kd.R_elder' (RL HO423) (Kd.R_base ho0) hb); have n2_ := Aside0.mk (Kd.R_lower (Kd.R_new' (Kd.R_new' ho0 (Kd.R_lt (RL HO_5))) (Kd.R_lt (RL HO423))) (below_size BL)); have n3_ := Aside0.mk (below_step BL hb); clear HO_5; clear HO423; clear HB; have HO_5 := n0_; have HO423 := n1_; have HO426 := n2_; have HB := n3_; clear n0_ n1_ n2_ n3_; (try clear hb); (try clear hb2); (try clear hk); (try clear hi); (try clear ho0); have p18 : 0 ≤ (x6_3 : Int) := DA; have q18 : x6_3 < (a0.size : Int) := DA; have hx18 := bt_at a0 x6_3; replace p18 := eq_true p18; replace q18 := eq_true q18; have p25 : 0 ≤ (x6_3 : Int) := DA; have q25 : x6_3 < (a0.size : Int) := DA; have hx25 := bt_at a0 x6_3; replace p25 := eq_true p25; replace q25 := eq_true q25) | ((with_reducible refine gate_dst (N := 58) rfl ?_); (try (refine gate_guard (by rfl) ?_; dsimp only)); refine Kd.R_lit (Kd.int .u32) _ 36 ?hg (N := 58) ?hd (xs := ([((bt a0 x6_3) - 48) % 256] : List Int)) (inner := [.int .u32 (((bt a0 x6_3) - 48) % 256)]) (ok := fun _ => True) (okp := fun _ => True) ?hr ?hp (fun _ hk => hk) trivial (Below.refl _ _) (Nat.le_refl _) (by simp) ?_; (case hd => rfl); (case hg => rfl); (case hr => first | (go_simp; done) | (go_simp; rfl)); (case hp => exact (Reps.one (show Kd.M (Kd.int .u32) _ _ _ (((bt a0 x6_3) - 48) % 256) [.int .u32 (((bt a0 x6_3) - 48) % 256)] from rfl) (Reps.none _ _))); intro v428 w32 ho33 hb hg_ hnew_; clear hg_ hnew_; (first | rw [← Ny427.out] at ho33 | (simp only [Int.reduceToNat] at ho33; rw [← Ny427.out] at ho33)); have n0_ := Aside0.mk (Kd.R_elder' (RL HO_5) (Kd.R_base ho33) hb); have n1_ := Aside0.mk (Kd.R_elder' (RL HO423) (Kd.R_base ho33) hb); have n2_ := Aside0.mk (Kd.R_elder' (RL HO426) (Kd.R_base ho33) hb); have n3_ := Aside0.mk (Kd.R_lower (Kd.R_new' (Kd.R_new' (Kd.R_new' ho33 (Kd.R_lt (RL HO_5))) (Kd.R_lt (RL HO423))) (Kd.R_lt (RL HO426))) (below_size BL)); have n4_ := Aside0.mk (below_step BL hb); clear HO_5; clear HO423; clear HO426; clear HB; have HO_5 := n0_; have HO423 := n1_; have HO426 := n2_; have HO429 := n3_; have HB := n4_; clear n0_ n1_ n2_ n3_ n4_; clear hb ho33; obtain ⟨Ao34, co34, eo34⟩ := Kd.R_slice HO426.out; subst eo34; obtain ⟨Ao35, co35, eo35⟩ := Kd.R_slice HO429.out; subst eo35) | ((with_reducible refine gate_callee (f := 24) rfl ?_); refine goesL_ (some 59) rfl rfl Tryd.func24 (by kernel_rfl) rfl #[.slice Ao34 t424.length co34, .slice Ao35 y427.length co35] rfl EQ ?_; (with_reducible refine (samphireref02_Add.calls k3 _ _ t424 _ _ y427 t430 _ ?side1 ?side2 ?side3 ?side4 A26.out).mono ?_); (case side1 => exact RR HO426); (case side2 => exact (Kd.R_reads' HO426.out).2.1); (case side3 => exact RR HO429); (case side4 => exact (Kd.R_reads' HO429.out).2.1); rintro e w36 ⟨v431, rfl, ho0, hb⟩; refine ⟨_, rfl, ?_⟩; have n0_ := Aside0.mk (Kd.R_elder' (RL HO_5) (Kd.R_base ho0) hb); have n1_ := Aside0.mk (Kd.R_elder' (RL HO423) (Kd.R_base ho0) hb); have n2_ := Aside0.mk (Kd.R_elder' (RL HO426) (Kd.R_base ho0) hb); have n3_ := Aside0.mk (Kd.R_elder' (RL HO429) (Kd.R_base ho0) hb); have n4_ := Aside0.mk (Kd.R_lower (Kd.R_new' (Kd.R_new' (Kd.R_new' (Kd.R_new' ho0 (Kd.R_lt (RL HO_5))) (Kd.R_lt (RL HO423))) (Kd.R_lt (RL HO426))) (Kd.R_lt (RL HO429))) (below_size BL)); have n5_ := Aside0.mk (below_step BL hb); clear HO_5; clear HO423; clear HO426; clear HO429; clear HB; have HO_5 := n0_; have HO423 := n1_; have HO426 := n2_; have HO429 := n3_; have HO432 := n4_; have HB := n5_; clear n0_ n1_ n2_ n3_ n4_ n5_; (try clear hb); (try clear hb2); (try clear hk); (try clear hi); (try clear ho0)))
                        go_roundg k3
                        case measure => have := HJ1.out; have := HK2.out; have := HK3.out; omega
                        case rel => exact ⟨(t430), (wrap64 (x6_3 + 1)), (by first | rfl | (simp; done) | (simp [*]; done) | (simp; exact isEmpty_bne _)), H', ⟨by have := HJ1.out; have := HK2.out; have := HK3.out; omega⟩, ⟨by (with_reducible repeat (first | apply Kd.R_alloc | apply Kd.R_drewN | apply Kd.R_drew)); exact Kd.R_mono HO432.out (fun _ hk => trivial)⟩, ⟨BL⟩⟩
                    · rw [if_neg c15] at H
                      have c15b0 : decide (x6_3 < (a0.size : Int)) = false := decide_eq_false c15
                      clear c15
                      by_cases c37 : (x5_3.length : Int) > 64
                      · rw [if_pos c37] at H
                        have c37b0 : decide (64 < (x5_3.length : Int)) = true := decide_eq_true c37
                        have c37b1 : decide (64 < x5_3.length) = true := decide_eq_true (by omega)
                        clear c37
                        simp only [Option.some.injEq, Prod.mk.injEq] at H
                        obtain ⟨rfl, rfl⟩ := H
                        obtain ⟨Ao38, co38, eo38⟩ := Kd.R_slice HO_5.out
                        subst eo38
                        go_wp2
                        go_ret2
                        exact ⟨_, by first | rfl | (simp [errW_none, errW_some] <;> rfl) | (simp [*, errW_none, errW_some] <;> rfl), by first | exact Kd.R_nil _ _ _ _ _ | exact Kd.N_nil _ _ _ _ _ | exact Kd.V_nil _ _ _ _ _ | exact Kd.Q_nil _ _ _ _ _ | exact Kd.S_nil _ _ _ _ _, BL⟩
                      · rw [if_neg c37] at H
                        have c37b0 : decide (64 < (x5_3.length : Int)) = false := decide_eq_false c37
                        have c37b1 : decide (64 < x5_3.length) = false := decide_eq_false (by omega)
                        clear c37
                        simp only [Option.some.injEq, Prod.mk.injEq] at H
                        obtain ⟨rfl, rfl⟩ := H
                        obtain ⟨Ao39, co39, eo39⟩ := Kd.R_slice HO_5.out
                        subst eo39
                        go_wp2
                        go_ret2
                        exact ⟨_, by first | rfl | (simp [errW_none, errW_some] <;> rfl) | (simp [*, errW_none, errW_some] <;> rfl), by (with_reducible repeat (first | apply Kd.R_alloc | apply Kd.R_drewN | apply Kd.R_drew)); exact HO_5.out, BL⟩

/-! ### samphireref02_Of: function 25 -/
set_option maxHeartbeats 8000000 in
set_option maxRecDepth 100000 in
theorem samphireref02_Of.calls (k : Nat) (a0 : Int) (r : List Int) (w : World) (h : samphireref02_Of.f k a0 = some r) :
    Calls Tryd.prog 25 #[.int .u64 a0] w fun e w' => ∃ v0_ : Value, e = .returned (v0_) ∧ Kd.R (Kd.int .u32) 36 w' w.heap.size (fun _ => True) v0_ r ∧ Below w.heap.size w w' := by
  have HB := Aside0.mk (Below.refl w.heap.size w)
  have H : ((samphireref02_Whole.f k (([Int.tmod a0 65536, Int.tmod (IntKind.u64.wrap (Int.tdiv a0 65536)) 65536, Int.tmod (IntKind.u64.wrap (Int.tdiv a0 4294967296)) 65536, IntKind.u64.wrap (Int.tdiv a0 281474976710656)] : List Int))).bind fun t436 => (some t436)) = some r := h
  clear h
  obtain ⟨y433, Ny433⟩ := let_p (([Int.tmod a0 65536, Int.tmod (IntKind.u64.wrap (Int.tdiv a0 65536)) 65536, Int.tmod (IntKind.u64.wrap (Int.tdiv a0 4294967296)) 65536, IntKind.u64.wrap (Int.tdiv a0 281474976710656)] : List Int) : List Int)
  (first | rw [← Ny433.out] at H | simp only [← Ny433.out] at H)
  obtain ⟨t436, A2, H⟩ := bind_p H
  obtain rfl := Option.some.inj H
  go_enter Tryd.func25, Tryd.ntmps25
  go_wp2_with (first | ((with_reducible refine gate_dst (N := 13) rfl ?_); refine Kd.R_lit (Kd.int .u64) _ 37 ?hg (N := 13) ?hd (xs := ([Int.tmod a0 65536, Int.tmod (IntKind.u64.wrap (Int.tdiv a0 65536)) 65536, Int.tmod (IntKind.u64.wrap (Int.tdiv a0 4294967296)) 65536, IntKind.u64.wrap (Int.tdiv a0 281474976710656)] : List Int)) (inner := [.int .u64 (Int.tmod a0 65536), .int .u64 (Int.tmod (IntKind.u64.wrap (Int.tdiv a0 65536)) 65536), .int .u64 (Int.tmod (IntKind.u64.wrap (Int.tdiv a0 4294967296)) 65536), .int .u64 (IntKind.u64.wrap (Int.tdiv a0 281474976710656))]) (ok := fun _ => True) (okp := fun _ => True) ?hr ?hp (fun _ hk => hk) trivial (Below.refl _ _) (Nat.le_refl _) (by simp) ?_; (case hd => rfl); (case hg => rfl); (case hr => first | (go_simp; done) | (go_simp; rfl)); (case hp => exact (Reps.one (show Kd.M (Kd.int .u64) _ _ _ (Int.tmod a0 65536) [.int .u64 (Int.tmod a0 65536)] from rfl) (Reps.one (show Kd.M (Kd.int .u64) _ _ _ (Int.tmod (IntKind.u64.wrap (Int.tdiv a0 65536)) 65536) [.int .u64 (Int.tmod (IntKind.u64.wrap (Int.tdiv a0 65536)) 65536)] from rfl) (Reps.one (show Kd.M (Kd.int .u64) _ _ _ (Int.tmod (IntKind.u64.wrap (Int.tdiv a0 4294967296)) 65536) [.int .u64 (Int.tmod (IntKind.u64.wrap (Int.tdiv a0 4294967296)) 65536)] from rfl) (Reps.one (show Kd.M (Kd.int .u64) _ _ _ (IntKind.u64.wrap (Int.tdiv a0 281474976710656)) [.int .u64 (IntKind.u64.wrap (Int.tdiv a0 281474976710656))] from rfl) (Reps.none _ _)))))); intro v434 w3 ho4 hb hg_ hnew_; clear hg_ hnew_; (first | rw [← Ny433.out] at ho4 | (simp only [Int.reduceToNat] at ho4; rw [← Ny433.out] at ho4)); have n0_ := Aside0.mk (Kd.R_lower ho4 (below_size BL)); have n1_ := Aside0.mk (below_step BL hb); clear HB; have HO435 := n0_; have HB := n1_; clear n0_ n1_; clear hb ho4; obtain ⟨Ao5, co5, eo5⟩ := Kd.R_slice HO435.out; subst eo5) | ((with_reducible refine gate_callee (f := 48) rfl ?_); refine goesL_ (some 14) rfl rfl Tryd.func48 (by kernel_rfl) rfl #[.slice Ao5 y433.length co5] rfl EQ ?_; (with_reducible refine (samphireref02_Whole.calls k _ _ y433 t436 _ ?side1 ?side2 A2.out).mono ?_); (case side1 => exact RR HO435); (case side2 => exact (Kd.R_reads' HO435.out).2.1); rintro e w6 ⟨v437, rfl, ho0, hb⟩; refine ⟨_, rfl, ?_⟩; have n0_ := Aside0.mk (Kd.R_below (RL HO435) hb); have n1_ := Aside0.mk (Kd.R_lower ho0 (below_size BL)); have n2_ := Aside0.mk (below_step BL hb); clear HO435; clear HB; have HO435 := n0_; have HO438 := n1_; have HB := n2_; clear n0_ n1_ n2_; (try clear hb); (try clear hb2); (try clear hk); (try clear hi); (try clear ho0)))
  go_ret
  exact ⟨_, by first | rfl | (simp [errW_none, errW_some] <;> rfl) | (simp [*, errW_none, errW_some] <;> rfl), by (with_reducible repeat (first | apply Kd.R_alloc | apply Kd.R_drewN | apply Kd.R_drew)); exact HO438.out, BL⟩

/-! ### nat_From: function 29 -/
set_option maxHeartbeats 8000000 in
set_option maxRecDepth 100000 in
theorem nat_From.calls (k : Nat) (a0_0 : Int) (a0_1 : Int) (r : List Int) (w : World) (h : nat_From.f k a0_0 a0_1 = some r) :
    Calls Tryd.prog 29 #[.agg #[.int .u64 a0_0, .int .u64 a0_1]] w fun e w' => ∃ v0_ : Value, e = .returned (v0_) ∧ Kd.R (Kd.int .u32) 36 w' w.heap.size (fun _ => True) v0_ r ∧ Below w.heap.size w w' := by
  have hu39 := Tryd.underlying39
  have HB := Aside0.mk (Below.refl w.heap.size w)
  have H : ((nat_trim.f k (([(a0_1) % 4294967296, (a0_1 / 4294967296) % 4294967296, (a0_0) % 4294967296, (a0_0 / 4294967296) % 4294967296] : List Int))).bind fun t443 => (some t443)) = some r := h
  clear h
  obtain ⟨y440, Ny440⟩ := let_p (([(a0_1) % 4294967296, (a0_1 / 4294967296) % 4294967296, (a0_0) % 4294967296, (a0_0 / 4294967296) % 4294967296] : List Int) : List Int)
  (first | rw [← Ny440.out] at H | simp only [← Ny440.out] at H)
  obtain ⟨t443, A2, H⟩ := bind_p H
  obtain rfl := Option.some.inj H
  go_enter Tryd.func29, Tryd.ntmps29
  go_wp2_with (first | ((with_reducible refine gate_dst (N := 1) rfl ?_); refine box_event ?hg (N := 1) ?hd (cs := #[.int .u64 a0_0, .int .u64 a0_1]) (t := 39) ?hr ?_; (case hd => rfl); (case hg => rfl); (case hr => first | (go_simp; done) | (go_simp; rfl)); intro gb439 hg w3 hbox hb; have n0_ := Aside0.mk (below_step BL hb); have n1_ := Aside0.mk (hbox); have n2_ := Aside0.mk ((by rw [hg]; exact (below_size BL) : w.heap.size ≤ gb439)); have n3_ := Aside0.mk ((by rw [hg]; exact (below_size BL) : w.heap.size ≤ gb439)); clear HB; have HB := n0_; have BK439 := n1_; have GW439 := n2_; have GE439 := n3_; clear n0_ n1_ n2_ n3_; clear hb hbox hg; have hcz4_0 : w3.cell? ⟨gb439, 0, none⟩ = some (.int .u64 a0_0) := (blk_cell BK439.out 0).trans rfl; have hcz4_1 : w3.cell? ⟨gb439, 1, none⟩ = some (.int .u64 a0_1) := (blk_cell BK439.out 1).trans rfl; have hfz4_0 := blk_frozen BK439.out 0; have hfz4_1 := blk_frozen BK439.out 1) | ((with_reducible refine gate_dst (N := 17) rfl ?_); refine Kd.R_lit (Kd.int .u32) _ 36 ?hg (N := 17) ?hd (xs := ([(a0_1) % 4294967296, (a0_1 / 4294967296) % 4294967296, (a0_0) % 4294967296, (a0_0 / 4294967296) % 4294967296] : List Int)) (inner := [.int .u32 ((a0_1) % 4294967296), .int .u32 ((a0_1 / 4294967296) % 4294967296), .int .u32 ((a0_0) % 4294967296), .int .u32 ((a0_0 / 4294967296) % 4294967296)]) (ok := fun _ => True) (okp := fun _ => True) ?hr ?hp (fun _ hk => hk) trivial (Below.refl _ _) (Nat.le_refl _) (by simp) ?_; (case hd => rfl); (case hg => rfl); (case hr => first | (go_simp; done) | (go_simp; rfl)); (case hp => exact (Reps.one (show Kd.M (Kd.int .u32) _ _ _ ((a0_1) % 4294967296) [.int .u32 ((a0_1) % 4294967296)] from rfl) (Reps.one (show Kd.M (Kd.int .u32) _ _ _ ((a0_1 / 4294967296) % 4294967296) [.int .u32 ((a0_1 / 4294967296) % 4294967296)] from rfl) (Reps.one (show Kd.M (Kd.int .u32) _ _ _ ((a0_0) % 4294967296) [.int .u32 ((a0_0) % 4294967296)] from rfl) (Reps.one (show Kd.M (Kd.int .u32) _ _ _ ((a0_0 / 4294967296) % 4294967296) [.int .u32 ((a0_0 / 4294967296) % 4294967296)] from rfl) (Reps.none _ _)))))); intro v441 w5 ho6 hb hg_ hnew_; clear hg_ hnew_; (first | rw [← Ny440.out] at ho6 | (simp only [Int.reduceToNat] at ho6; rw [← Ny440.out] at ho6)); have n0_ := Aside0.mk (Kd.R_lower ho6 (below_size (by repeat (first | (with_reducible first | exact HB.out | apply below_alloc | apply pw_below_drewN | apply below_drew1 | refine below_set ?_ GE439.out) | exact HB.out)))); have n1_ := Aside0.mk (blk_below (g := gb439) (o := .cells #[.int .u64 a0_0, .int .u64 a0_1] 39 (0, 0)) (by (with_reducible repeat (first | refine blk_drewN ?_ _ | refine blk_drew ?_ | refine blk_alloc ?_ _)); exact BK439.out) hb); have n2_ := Aside0.mk (below_step (by repeat (first | (with_reducible first | exact HB.out | apply below_alloc | apply pw_below_drewN | apply below_drew1 | refine below_set ?_ GE439.out) | exact HB.out)) hb); clear BK439; clear HB; have HO442 := n0_; have BK439 := n1_; have HB := n2_; clear n0_ n1_ n2_; clear hb ho6; obtain ⟨Ao7, co7, eo7⟩ := Kd.R_slice HO442.out; subst eo7) | ((with_reducible refine gate_callee (f := 55) rfl ?_); refine goesL_ (some 18) rfl rfl Tryd.func55 (by kernel_rfl) rfl #[.slice Ao7 y440.length co7] rfl EQ ?_; (with_reducible refine (nat_trim.calls k (fun k_ => some k_ = (.slice Ao7 y440.length co7 : Value).ownBlock) (.slice Ao7 y440.length co7) y440 t443 w _ ?side1 ?side2 A2.out).mono ?_); (case side1 => repeat (first | (with_reducible first | exact HB.out | apply below_alloc | apply pw_below_drewN | apply below_drew1 | refine below_set ?_ GE439.out) | exact HB.out)); (case side2 => exact Kd.R_tight rfl HO442.out); rintro e w8 ⟨v444, rfl, ho0, hb, hkp⟩; refine ⟨_, rfl, ?_⟩; have n0_ := Aside0.mk (blk_kept (by (with_reducible repeat (first | refine blk_drewN ?_ _ | refine blk_drew ?_ | refine blk_alloc ?_ _)); exact BK439.out) hkp (fun hs_ => (fun e_ => (Kd.R_ne HO442.out BK439.out (by decide)) e_) hs_)); have n1_ := Aside0.mk (Kd.R_mono (ok' := fun k_ => True) ho0 (fun k_ hk_ => trivial)); have n2_ := Aside0.mk (hb); clear BK439; clear HB; clear HO442; have BK439 := n0_; have HO445 := n1_; have HB := n2_; clear n0_ n1_ n2_; (try clear hb); (try clear hkp); (try clear ho0)))
  go_ret
  exact ⟨_, by first | rfl | (simp [errW_none, errW_some] <;> rfl) | (simp [*, errW_none, errW_some] <;> rfl), by (with_reducible repeat (first | apply Kd.R_alloc | apply Kd.R_drewN | apply Kd.R_drew)); exact HO445.out, by repeat (first | (with_reducible first | exact HB.out | apply below_alloc | apply pw_below_drewN | apply below_drew1 | refine below_set ?_ GE439.out) | exact HB.out)⟩

end Go.Proofs.YtdgbeejhccogpaaDoor.T
