-- Printed by this session's own program out of the translation.
import Derived.Test.YtecbbenfcepohaaDoorKx0
namespace Go.Proofs.YtecbbenfcepohaaDoor.K
open Go.RowKit Go.Proofs.YtecbbenfcepohaaDoorW.PrintWords Go.Proofs.YtecbbenfcepohaaDoorW.PrintLast Go.Proofs.YtecbbenfcepohaaDoorW.PrintMore
attribute [local go_sem] max2_int min2_int max_two min_two max_three min_three max_four min_four   -- for this text's walks alone
set_option linter.unusedVariables false
set_option linter.unusedSimpArgs false

/-! ### nat_Right: function 33 -/
set_option maxHeartbeats 8000000 in
set_option maxRecDepth 100000 in
theorem nat_Right.calls (A0 : Option Addr) (c0 : Nat) (l0 : List Int) (r : Bool) (w : World) (hr0 : Kd.C (Kd.int .u32) w A0 l0.length l0) (hc0 : l0.length ≤ c0) (h : nat_Right.f l0 = some r) :
    Calls Tryd.prog 33 #[.slice A0 l0.length c0] w fun e w' => e = .returned (.bool r) ∧ Drawn0 w w' := by
  have HR0 := Aside0.mk hr0
  have HC0 := Aside0.mk hc0
  clear hr0 hc0
  have H : (if (l0.length : Int) ≤ 64 then (if (l0.length : Int) = 0 then (some true) else (if 0 ≤ (wrap64 ((l0.length : Int) - 1)) then (if (wrap64 ((l0.length : Int) - 1)) < (l0.length : Int) then (some ((rd l0 (wrap64 ((l0.length : Int) - 1))) != 0)) else (none)) else (none))) else (some false)) = some r := h
  clear h
  by_cases c2 : (l0.length : Int) ≤ 64
  · rw [if_pos c2] at H
    have c2b0 : decide ((l0.length : Int) ≤ 64) = true := decide_eq_true c2
    have c2b1 : decide (l0.length ≤ 64) = true := decide_eq_true (by omega)
    clear c2
    by_cases c3 : (l0.length : Int) = 0
    · rw [if_pos c3] at H
      have c3b0 : ((l0.length : Int) == 0) = true := beq_iff_eq.mpr c3
      have c3b1 : ((l0.length : Int) != 0) = false := bne_eq_false_iff_eq.mpr c3
      clear c3
      obtain rfl := Option.some.inj H
      go_enter Tryd.func33, Tryd.ntmps33
      go_wp2
      go_ret
      exact ⟨by first | rfl | (simp; done) | (simp [*]; done) | (simp; exact isEmpty_bne _), by repeat (first | exact Drawn0.refl _ | apply Drawn0.step)⟩
    · rw [if_neg c3] at H
      have c3b0 : ((l0.length : Int) == 0) = false := beq_eq_false_iff_ne.mpr c3
      have c3b1 : ((l0.length : Int) != 0) = true := bne_iff_ne.mpr c3
      have c3b2 : ¬ (l0 = []) := fun h_ => c3 (by rw [h_]; rfl)
      obtain ⟨ji4, hji4⟩ := let_j (wrap64 ((l0.length : Int) - 1))
      (first | rw [hji4] at H | simp only [hji4] at H ⊢)
      have hji4w : (IntKind.i64.wrap ((l0.length : Int) - 1)) = ji4 := (i64_w _).trans hji4
      obtain ⟨c5, H⟩ := ite_p H
      have c5b0 : decide (0 ≤ (ji4)) = true := decide_eq_true c5
      clear c5
      obtain ⟨c6, H⟩ := ite_p H
      have c6b0 : decide ((ji4) < (l0.length : Int)) = true := decide_eq_true c6
      clear c6
      obtain rfl := Option.some.inj H
      have p101 : 0 ≤ ((ji4) : Int) := DA
      have q101 : (ji4) < (l0.length : Int) := DA
      obtain ⟨ad101, e101, hx101_0⟩ := Kd.at_int HR0.out (ji4) p101 q101
      cases e101
      replace p101 := eq_true p101
      replace q101 := eq_true q101
      go_enter Tryd.func33, Tryd.ntmps33
      go_wp2
      go_ret
      exact ⟨by first | rfl | (simp; done) | (simp only [← hji4] <;> (first | rfl | simp)) | (simp [*]; done), by repeat (first | exact Drawn0.refl _ | apply Drawn0.step)⟩
  · rw [if_neg c2] at H
    have c2b0 : decide ((l0.length : Int) ≤ 64) = false := decide_eq_false c2
    have c2b1 : decide (l0.length ≤ 64) = false := decide_eq_false (by omega)
    clear c2
    obtain rfl := Option.some.inj H
    go_enter Tryd.func33, Tryd.ntmps33
    go_wp2
    go_ret
    exact ⟨by first | rfl | (simp; done) | (simp [*]; done) | (simp; exact isEmpty_bne _), by repeat (first | exact Drawn0.refl _ | apply Drawn0.step)⟩

/-! ### nat_trim: function 56 -/
set_option maxHeartbeats 8000000 in
set_option maxRecDepth 100000 in
theorem nat_trim.calls (k : Nat) (P0_ : Nat → Prop) (u9000_ : Value) (l0 : List Int) (r : List Int) (w0 w : World) (hB : Below w0.heap.size w0 w) (ho0 : Kd.R (Kd.int .u32) 34 w w0.heap.size P0_ u9000_ l0) (h : nat_trim.f k l0 = some r) :
    Calls Tryd.prog 56 #[u9000_] w fun e w' => ∃ v0_ : Value, e = .returned (v0_) ∧ Kd.R (Kd.int .u32) 34 w' w0.heap.size (fun k_ => (P0_ k_ ∨ w.heap.size ≤ k_)) v0_ r ∧ Below w0.heap.size w0 w' ∧ Kept w w' (fun k_ => P0_ k_) := by
  have HO0 := Aside0.mk (show Kd.R (Kd.int .u32) 34 w w0.heap.size (fun k_ => (P0_ k_ ∨ w.heap.size ≤ k_)) u9000_ l0 from Kd.R_mono ho0 (fun k_ hk => (.inl hk)))
  have HK := Aside0.mk (Kept.refl w (fun k_ => P0_ k_))
  have HW0 := Aside0.mk hB.size
  have HB := Aside0.mk hB
  clear hB
  have H : (nat_trim.l0 k l0 (l0.length : Int)) = some r := h
  clear h
  have H' := Aside0.mk H
  clear H
  obtain ⟨Ao2, co2, eo2⟩ := Kd.R_slice HO0.out
  subst eo2
  go_enter Tryd.func56, Tryd.ntmps56
  go_wp2
  go_loopg [3] k (fun kq v3 w' => ∃ (x3_1 : Int), v3 = .int .i64 x3_1 ∧ Aside0 (nat_trim.l0 kq l0 x3_1 = some r) ∧ Aside0 (kq ≤ k) ∧ Aside0 (Kd.R (Kd.int .u32) 34 w' w0.heap.size (fun k_ => (P0_ k_ ∨ w.heap.size ≤ k_)) (.slice Ao2 l0.length co2) l0) ∧ Aside0 (Kept w w' (fun k_ => P0_ k_)) ∧ Aside0 (Below w0.heap.size w0 w'))
  case atStart => exact ⟨((l0.length : Int)), (by first | rfl | (simp; done) | (simp [*]; done) | (simp; exact isEmpty_bne _)), H', ⟨Nat.le_refl _⟩, ⟨by (with_reducible repeat (first | apply Kd.R_alloc | apply Kd.R_drewN | apply Kd.R_drew)); exact HO0.out⟩, ⟨by repeat (first | (with_reducible first | exact HK.out | apply Kept.alloc | apply Kept.drewN | apply Kept.drew) | exact HK.out)⟩, ⟨BL⟩⟩
  case round =>
    clear H'
    try clear p2
    obtain ⟨x3_1, rfl, HA, HK1, HO_0, HK, HB⟩ := hrel
    cases gk with
    | zero => exact absurd HA.out (by simp [nat_trim.l0])
    | succ k1 =>
      have H := HA.out
      clear HA
      simp only [nat_trim.l0] at H
      by_cases c3 : x3_1 > 0
      · rw [if_pos c3] at H
        have c3b0 : decide (0 < x3_1) = true := decide_eq_true c3
        clear c3
        obtain ⟨ji4, hji4⟩ := let_j (wrap64 (x3_1 - 1))
        (first | rw [hji4] at H | simp only [hji4] at H ⊢)
        have hji4w : (IntKind.i64.wrap (x3_1 - 1)) = ji4 := (i64_w _).trans hji4
        obtain ⟨c5, H⟩ := ite_p H
        have c5b0 : decide (0 ≤ (ji4)) = true := decide_eq_true c5
        clear c5
        obtain ⟨c6, H⟩ := ite_p H
        have c6b0 : decide ((ji4) < (l0.length : Int)) = true := decide_eq_true c6
        clear c6
        by_cases c7 : (rd l0 (ji4)) = 0
        · rw [if_pos c7] at H
          have c7b0 : ((rd l0 (ji4)) == 0) = true := beq_iff_eq.mpr c7
          have c7b1 : ((rd l0 (ji4)) != 0) = false := bne_eq_false_iff_eq.mpr c7
          clear c7
          have H' := Aside0.mk H
          clear H
          have p102 : 0 ≤ ((ji4) : Int) := DA
          have q102 : (ji4) < (l0.length : Int) := DA
          obtain ⟨ad102, e102, hx102_0⟩ := Kd.at_int (Kd.R_reads' HO_0.out).2.2 (ji4) p102 q102
          cases e102
          replace p102 := eq_true p102
          replace q102 := eq_true q102
          go_wp2
          go_roundg k1
          case measure => have := HK1.out; omega
          case rel => exact ⟨(ji4), (by first | rfl | (simp; done) | (simp only [← hji4] <;> (first | rfl | simp)) | (simp [*]; done)), H', ⟨by have := HK1.out; omega⟩, ⟨by (with_reducible repeat (first | apply Kd.R_alloc | apply Kd.R_drewN | apply Kd.R_drew)); exact HO_0.out⟩, ⟨by repeat (first | (with_reducible first | exact HK.out | apply Kept.alloc | apply Kept.drewN | apply Kept.drew) | exact HK.out)⟩, ⟨BL⟩⟩
        · rw [if_neg c7] at H
          have c7b0 : ((rd l0 (ji4)) == 0) = false := beq_eq_false_iff_ne.mpr c7
          have c7b1 : ((rd l0 (ji4)) != 0) = true := bne_iff_ne.mpr c7
          obtain ⟨c8, H⟩ := ite_p H
          have c8b0 := eq_true c8
          have c8b1 : decide (0 ≤ x3_1) = true := decide_eq_true c8
          clear c8
          obtain ⟨c9, H⟩ := ite_p H
          have c9b0 := eq_true c9
          have c9b1 : decide (x3_1 ≤ (l0.length : Int)) = true := decide_eq_true c9
          clear c9
          obtain ⟨y103, Ny103⟩ := let_p (l0.take (x3_1 : Int).toNat : List Int)
          (first | rw [← Ny103.out] at H | simp only [← Ny103.out] at H)
          obtain rfl := Option.some.inj H
          have p102 : 0 ≤ ((ji4) : Int) := DA
          have q102 : (ji4) < (l0.length : Int) := DA
          obtain ⟨ad102, e102, hx102_0⟩ := Kd.at_int (Kd.R_reads' HO_0.out).2.2 (ji4) p102 q102
          cases e102
          replace p102 := eq_true p102
          replace q102 := eq_true q102
          have q10 : (x3_1 : Int) ≤ ((l0.length : Int) : Int) := DA
          obtain ⟨i010, hi010, _, hsz10, _⟩ := info_parts info34
          have hcut10 := cut_to (P := Tryd.prog) 22 34 .i64 Tryd.underlying22 hi010 (some ad102) l0.length co2 x3_1 (DA) q10 (Kd.R_reads' HO_0.out).2.1
          have hr10 := Kd.R_take (m := (x3_1 : Int).toNat) HO_0.out (by omega)
          have hy10 : y103.length = (x3_1 : Int).toNat := (by rw [Ny103.out, List.length_take]; omega)
          rw [← Ny103.out] at hr10
          rw [← hy10] at hr10 hcut10
          clear hy10 hi010 hsz10 HO_0
          have HO105 := Aside0.mk hr10
          clear hr10
          replace q10 := eq_true q10
          go_wp2
          go_ret
          exact ⟨_, by first | rfl | (simp [errW_none, errW_some] <;> rfl) | (simp only [← hji4]; first | rfl | (simp [errW_none, errW_some] <;> rfl)) | (simp [*, errW_none, errW_some] <;> rfl), by (with_reducible repeat (first | apply Kd.R_alloc | apply Kd.R_drewN | apply Kd.R_drew)); exact HO105.out, by repeat (first | (with_reducible first | exact HB.out | apply below_alloc | apply pw_below_drewN | apply below_drew1) | exact HB.out), by repeat (first | (with_reducible first | exact HK.out | apply Kept.alloc | apply Kept.drewN | apply Kept.drew) | exact HK.out)⟩
      · rw [if_neg c3] at H
        have c3b0 : decide (0 < x3_1) = false := decide_eq_false c3
        clear c3
        obtain ⟨c11, H⟩ := ite_p H
        have c11b0 := eq_true c11
        have c11b1 : decide (0 ≤ x3_1) = true := decide_eq_true c11
        clear c11
        obtain ⟨c12, H⟩ := ite_p H
        have c12b0 := eq_true c12
        have c12b1 : decide (x3_1 ≤ (l0.length : Int)) = true := decide_eq_true c12
        clear c12
        obtain ⟨y106, Ny106⟩ := let_p (l0.take (x3_1 : Int).toNat : List Int)
        (first | rw [← Ny106.out] at H | simp only [← Ny106.out] at H)
        obtain rfl := Option.some.inj H
        have q13 : (x3_1 : Int) ≤ ((l0.length : Int) : Int) := DA
        obtain ⟨i013, hi013, _, hsz13, _⟩ := info_parts info34
        have hcut13 := cut_to (P := Tryd.prog) 22 34 .i64 Tryd.underlying22 hi013 Ao2 l0.length co2 x3_1 (DA) q13 (Kd.R_reads' HO_0.out).2.1
        have hr13 := Kd.R_take (m := (x3_1 : Int).toNat) HO_0.out (by omega)
        have hy13 : y106.length = (x3_1 : Int).toNat := (by rw [Ny106.out, List.length_take]; omega)
        rw [← Ny106.out] at hr13
        rw [← hy13] at hr13 hcut13
        clear hy13 hi013 hsz13 HO_0
        have HO108 := Aside0.mk hr13
        clear hr13
        replace q13 := eq_true q13
        go_wp2
        go_ret
        exact ⟨_, by first | rfl | (simp [errW_none, errW_some] <;> rfl) | (simp [*, errW_none, errW_some] <;> rfl), by (with_reducible repeat (first | apply Kd.R_alloc | apply Kd.R_drewN | apply Kd.R_drew)); exact HO108.out, by repeat (first | (with_reducible first | exact HB.out | apply below_alloc | apply pw_below_drewN | apply below_drew1) | exact HB.out), by repeat (first | (with_reducible first | exact HK.out | apply Kept.alloc | apply Kept.drewN | apply Kept.drew) | exact HK.out)⟩

/-! ### nat_Of: function 35 -/
set_option maxHeartbeats 8000000 in
set_option maxRecDepth 100000 in
theorem nat_Of.calls (k : Nat) (a0 : Int) (r : List Int) (w : World) (h : nat_Of.f k a0 = some r) :
    Calls Tryd.prog 35 #[.int .u64 a0] w fun e w' => ∃ v0_ : Value, e = .returned (v0_) ∧ Kd.R (Kd.int .u32) 34 w' w.heap.size (fun _ => True) v0_ r ∧ Below w.heap.size w w' := by
  have HB := Aside0.mk (Below.refl w.heap.size w)
  have H : ((nat_trim.f k (([(a0) % 4294967296, (a0 / 4294967296) % 4294967296] : List Int))).bind fun t112 => (some t112)) = some r := h
  clear h
  obtain ⟨y109, Ny109⟩ := let_p (([(a0) % 4294967296, (a0 / 4294967296) % 4294967296] : List Int) : List Int)
  (first | rw [← Ny109.out] at H | simp only [← Ny109.out] at H)
  obtain ⟨t112, A2, H⟩ := bind_p H
  obtain rfl := Option.some.inj H
  go_enter Tryd.func35, Tryd.ntmps35
  go_wp2_with (first | ((with_reducible refine gate_dst (N := 8) rfl ?_); refine Kd.R_lit (Kd.int .u32) _ 34 ?hg (N := 8) ?hd (xs := ([(a0) % 4294967296, (a0 / 4294967296) % 4294967296] : List Int)) (inner := [.int .u32 ((a0) % 4294967296), .int .u32 ((a0 / 4294967296) % 4294967296)]) (ok := fun _ => True) (okp := fun _ => True) ?hr ?hp (fun _ hk => hk) trivial (Below.refl _ _) (Nat.le_refl _) (by simp) ?_; (case hd => rfl); (case hg => rfl); (case hr => first | (go_simp; done) | (go_simp; rfl)); (case hp => exact (Reps.one (show Kd.M (Kd.int .u32) _ _ _ ((a0) % 4294967296) [.int .u32 ((a0) % 4294967296)] from rfl) (Reps.one (show Kd.M (Kd.int .u32) _ _ _ ((a0 / 4294967296) % 4294967296) [.int .u32 ((a0 / 4294967296) % 4294967296)] from rfl) (Reps.none _ _)))); intro v110 w3 ho4 hb hg_ hnew_; clear hg_ hnew_; (first | rw [← Ny109.out] at ho4 | (simp only [Int.reduceToNat] at ho4; rw [← Ny109.out] at ho4)); have n0_ := Aside0.mk (Kd.R_lower ho4 (below_size BL)); have n1_ := Aside0.mk (below_step BL hb); clear HB; have HO111 := n0_; have HB := n1_; clear n0_ n1_; clear hb ho4; obtain ⟨Ao5, co5, eo5⟩ := Kd.R_slice HO111.out; subst eo5) | ((with_reducible refine gate_callee (f := 56) rfl ?_); refine goesL_ (some 9) rfl rfl Tryd.func56 (by kernel_rfl) rfl #[.slice Ao5 y109.length co5] rfl EQ ?_; (with_reducible refine (nat_trim.calls k (fun k_ => some k_ = (.slice Ao5 y109.length co5 : Value).ownBlock) (.slice Ao5 y109.length co5) y109 t112 w _ ?side1 ?side2 A2.out).mono ?_); (case side1 => repeat (first | (with_reducible first | exact HB.out | apply below_alloc | apply pw_below_drewN | apply below_drew1) | exact HB.out)); (case side2 => exact Kd.R_tight rfl HO111.out); rintro e w6 ⟨v113, rfl, ho0, hb, hkp⟩; refine ⟨_, rfl, ?_⟩; have n0_ := Aside0.mk (Kd.R_mono (ok' := fun k_ => True) ho0 (fun k_ hk_ => trivial)); have n1_ := Aside0.mk (hb); clear HB; clear HO111; have HO114 := n0_; have HB := n1_; clear n0_ n1_; (try clear hb); (try clear hkp); (try clear ho0)))
  go_ret
  exact ⟨_, by first | rfl | (simp [errW_none, errW_some] <;> rfl) | (simp [*, errW_none, errW_some] <;> rfl), by (with_reducible repeat (first | apply Kd.R_alloc | apply Kd.R_drewN | apply Kd.R_drew)); exact HO114.out, BL⟩

/-! ### api_Nat_uint32: function 62 -/
set_option maxHeartbeats 8000000 in
set_option maxRecDepth 100000 in
theorem api_Nat_uint32.calls (A0 : Option Addr) (c0 : Nat) (l0 : List Int) (r : List Int) (w : World) (hr0 : Kd.C (Kd.int .u32) w A0 l0.length l0) (hc0 : l0.length ≤ c0) (h : api_Nat_uint32.f l0 = some r) :
    Calls Tryd.prog 62 #[.slice A0 l0.length c0] w fun e w' => ∃ v0_ : Value, e = .returned (v0_) ∧ Kd.R (Kd.int .u32) 34 w' w.heap.size (fun _ => True) v0_ r ∧ Below w.heap.size w w' := by
  cases A0 with
  | none =>
    have hl : l0 = [] := by
      rcases Nat.eq_zero_or_pos l0.length with z | z
      · exact List.eq_nil_of_length_eq_zero z
      · obtain ⟨_, q, _⟩ := hr0.2.2 z
        cases q
    subst hl
    have hn : r = [] := by
      have e : api_Nat_uint32.f [] = some [] := rfl
      exact (Option.some.inj (e.symm.trans h)).symm
    subst hn
    clear h hr0 hc0
    have hnil := Lib.run_eql_slice_nil (P := Tryd.prog) w 23 34 none 0 c0 0 0 Tryd.underlying23
    go_enter Tryd.func62, Tryd.ntmps62
    go_wp2
    go_ret
    exact ⟨_, rfl, Kd.R_nil _ _ _ _ _, Below.refl _ _⟩
  | some ad0 =>
    have hnil := Lib.run_eql_slice_nil (P := Tryd.prog) w 23 34 (some ad0) l0.length c0 0 0 Tryd.underlying23
    have HR0 := Aside0.mk hr0
    have HC0 := Aside0.mk hc0
    clear hr0 hc0
    have HB := Aside0.mk (Below.refl w.heap.size w)
    have H : ((some (([] : List Int) : List Int)).bind fun y115 => (if y115.length + l0.length < 35184372088832 then (some (y115 ++ l0)) else (none))) = some r := h
    clear h
    obtain ⟨y115, Ny115, H⟩ := some_p H
    obtain ⟨c2, H⟩ := ite_p H
    have LMc2 := Aside0.mk c2
    clear c2
    obtain ⟨y118, Ny118⟩ := let_p (y115 ++ l0 : List Int)
    (first | rw [← Ny118.out] at H | simp only [← Ny118.out] at H)
    obtain rfl := Option.some.inj H
    go_enter Tryd.func62, Tryd.ntmps62
    go_wp2_with (first | ((with_reducible refine gate_dst (N := 5) rfl ?_); refine Kd.R_lit (Kd.int .u32) _ 34 ?hg (N := 5) ?hd (xs := ([] : List Int)) (inner := []) (ok := fun _ => True) (okp := fun _ => True) ?hr ?hp (fun _ hk => hk) trivial (Below.refl _ _) (Nat.le_refl _) (by simp) ?_; (case hd => rfl); (case hg => rfl); (case hr => first | (go_simp; done) | (go_simp; rfl)); (case hp => exact (Reps.none _ _)); intro v116 w3 ho4 hb hg_ hnew_; clear hg_ hnew_; (first | rw [← Ny115.out] at ho4 | (simp only [Int.reduceToNat] at ho4; rw [← Ny115.out] at ho4)); have n0_ := Aside0.mk (Kd.R_lower ho4 (below_size BL)); have n1_ := Aside0.mk (below_step BL hb); clear HB; have HO117 := n0_; have HB := n1_; clear n0_ n1_; clear hb ho4) | ((with_reducible refine gate_builtin (b := .append) (xs := #[.tmp 5, .tmp 6]) rfl ?_); at_builtin; refine Kd.R_append_rows (Kd.int .u32) (w0 := w) w.heap.size rfl (.tmp 5) (.tmp 6) 23 34 (.int .u32 0) 4 rfl Tryd.underlying23 info34 rfl (by decide) (by omega) v116 y115 l0 _ _ _ (fun _ => True) (fun _ => False) rfl rfl ?aO ?aR (fun _ _ h => h) (fun _ h => h.elim) ?aF ?aB ?aS ?aL ?_; (case aR => exact CB HR0); (case aB => exact BL); (case aF => exact (fun _ _ => trivial)); (case aO => exact (RL HO117)); (case aS => exact (below_size BL)); (case aL => have := LMc2.out; omega); intro v119 w5 ho hb hg hat; rw [← Ny118.out] at ho; have n0_ := Aside0.mk (hb); have n1_ := Aside0.mk (ho); clear HB; clear HO117; have HB := n0_; have HO120 := n1_; clear n0_ n1_; clear ho hb hg hat))
    go_ret
    exact ⟨_, by first | rfl | (simp [errW_none, errW_some] <;> rfl) | (simp [*, errW_none, errW_some] <;> rfl), by (with_reducible repeat (first | apply Kd.R_alloc | apply Kd.R_drewN | apply Kd.R_drew)); exact HO120.out, BL⟩

/-! ### nat_order: function 63 -/
set_option maxHeartbeats 8000000 in
set_option maxRecDepth 100000 in
theorem nat_order.calls (k : Nat) (A0 : Option Addr) (c0 : Nat) (l0 : List Int) (A1 : Option Addr) (c1 : Nat) (l1 : List Int) (r : Int) (w : World) (hr0 : Kd.C (Kd.int .u32) w A0 l0.length l0) (hc0 : l0.length ≤ c0) (hr1 : Kd.C (Kd.int .u32) w A1 l1.length l1) (hc1 : l1.length ≤ c1) (h : nat_order.f k l0 l1 = some r) :
    Calls Tryd.prog 63 #[.slice A0 l0.length c0, .slice A1 l1.length c1] w fun e w' => e = .returned (.int .i64 r) ∧ Below w.heap.size w w' := by
  have HR0 := Aside0.mk hr0
  have HC0 := Aside0.mk hc0
  clear hr0 hc0
  have HR1 := Aside0.mk hr1
  have HC1 := Aside0.mk hc1
  clear hr1 hc1
  have HB := Aside0.mk (Below.refl w.heap.size w)
  have H : (if (l0.length : Int) = (l1.length : Int) then (nat_order.l0 k l0 l1 (wrap64 ((l0.length : Int) - 1))) else (some ((2 * (mn (mx (wrap64 ((l0.length : Int) - (l1.length : Int))) 0) 1)) - 1))) = some r := h
  clear h
  by_cases c3 : (l0.length : Int) = (l1.length : Int)
  · rw [if_pos c3] at H
    have c3b0 : ((l0.length : Int) == (l1.length : Int)) = true := beq_iff_eq.mpr c3
    have c3b1 : ((l0.length : Int) != (l1.length : Int)) = false := bne_eq_false_iff_eq.mpr c3
    have c3b2 : (l0.length == l1.length) = true := by first | simpa using c3 | (simp at c3 ⊢; omega)
    clear c3
    have H' := Aside0.mk H
    clear H
    go_enter Tryd.func63, Tryd.ntmps63
    go_wp2
    repeat (go_quiet (fail); try go_wp2)
    go_loopg [5] k (fun kq v5 w' => ∃ (x5_1 : Int), v5 = .int .i64 x5_1 ∧ Aside0 (nat_order.l0 kq l0 l1 x5_1 = some r) ∧ Aside0 (kq ≤ k) ∧ Aside0 (Below w.heap.size w w'))
    case atStart => exact ⟨(wrap64 ((l0.length : Int) - 1)), (by first | rfl | (simp; done) | (simp [*]; done) | (simp; exact isEmpty_bne _)), H', ⟨Nat.le_refl _⟩, ⟨BL⟩⟩
    case round =>
      clear H'
      try clear c1
      try clear p2
      try clear c3
      try clear c3b0
      try clear c3b1
      try clear c3b2
      obtain ⟨x5_1, rfl, HA, HK1, HB⟩ := hrel
      cases gk with
      | zero => exact absurd HA.out (by simp [nat_order.l0])
      | succ k1 =>
        have H := HA.out
        clear HA
        simp only [nat_order.l0] at H
        by_cases c4 : x5_1 ≥ 0
        · rw [if_pos c4] at H
          have c4b0 : decide (0 ≤ x5_1) = true := decide_eq_true c4
          clear c4
          obtain ⟨c5, H⟩ := ite_p H
          have c5b0 : decide (0 ≤ x5_1) = true := decide_eq_true c5
          clear c5
          obtain ⟨c6, H⟩ := ite_p H
          have c6b0 : decide (x5_1 < (l0.length : Int)) = true := decide_eq_true c6
          clear c6
          obtain ⟨c7, H⟩ := ite_p H
          have c7b0 : decide (x5_1 < (l1.length : Int)) = true := decide_eq_true c7
          clear c7
          by_cases c8 : (rd l0 x5_1) < (rd l1 x5_1)
          · rw [if_pos c8] at H
            have c8b0 : decide ((rd l0 x5_1) < (rd l1 x5_1)) = true := decide_eq_true c8
            clear c8
            obtain rfl := Option.some.inj H
            have p121 : 0 ≤ (x5_1 : Int) := DA
            have q121 : x5_1 < (l0.length : Int) := DA
            obtain ⟨ad121, e121, hx121_0⟩ := Kd.at_int HR0.out x5_1 p121 q121
            cases e121
            replace hx121_0 := (HB.out.cell (World.block_lt_of_cell? w _ hx121_0)).trans hx121_0
            replace p121 := eq_true p121
            replace q121 := eq_true q121
            have p122 : 0 ≤ (x5_1 : Int) := DA
            have q122 : x5_1 < (l1.length : Int) := DA
            obtain ⟨ad122, e122, hx122_0⟩ := Kd.at_int HR1.out x5_1 p122 q122
            cases e122
            replace hx122_0 := (HB.out.cell (World.block_lt_of_cell? w _ hx122_0)).trans hx122_0
            replace p122 := eq_true p122
            replace q122 := eq_true q122
            go_wp2
            repeat (go_quiet (fail); try go_wp2)
            go_ret
            exact ⟨by first | rfl | (simp [errW_none, errW_some] <;> rfl) | (simp [*, errW_none, errW_some] <;> rfl), BL⟩
          · rw [if_neg c8] at H
            have c8b0 : decide ((rd l0 x5_1) < (rd l1 x5_1)) = false := decide_eq_false c8
            clear c8
            by_cases c9 : (rd l0 x5_1) > (rd l1 x5_1)
            · rw [if_pos c9] at H
              have c9b0 : decide ((rd l1 x5_1) < (rd l0 x5_1)) = true := decide_eq_true c9
              clear c9
              obtain rfl := Option.some.inj H
              have p121 : 0 ≤ (x5_1 : Int) := DA
              have q121 : x5_1 < (l0.length : Int) := DA
              obtain ⟨ad121, e121, hx121_0⟩ := Kd.at_int HR0.out x5_1 p121 q121
              cases e121
              replace hx121_0 := (HB.out.cell (World.block_lt_of_cell? w _ hx121_0)).trans hx121_0
              replace p121 := eq_true p121
              replace q121 := eq_true q121
              have p122 : 0 ≤ (x5_1 : Int) := DA
              have q122 : x5_1 < (l1.length : Int) := DA
              obtain ⟨ad122, e122, hx122_0⟩ := Kd.at_int HR1.out x5_1 p122 q122
              cases e122
              replace hx122_0 := (HB.out.cell (World.block_lt_of_cell? w _ hx122_0)).trans hx122_0
              replace p122 := eq_true p122
              replace q122 := eq_true q122
              have p123 : 0 ≤ (x5_1 : Int) := DA
              have q123 : x5_1 < (l0.length : Int) := DA
              obtain ⟨ad123, e123, hx123_0⟩ := Kd.at_int HR0.out x5_1 p123 q123
              obtain rfl : ad121 = ad123 := (by injection e123)
              replace hx123_0 := (HB.out.cell (World.block_lt_of_cell? w _ hx123_0)).trans hx123_0
              replace p123 := eq_true p123
              replace q123 := eq_true q123
              have p124 : 0 ≤ (x5_1 : Int) := DA
              have q124 : x5_1 < (l1.length : Int) := DA
              obtain ⟨ad124, e124, hx124_0⟩ := Kd.at_int HR1.out x5_1 p124 q124
              obtain rfl : ad122 = ad124 := (by injection e124)
              replace hx124_0 := (HB.out.cell (World.block_lt_of_cell? w _ hx124_0)).trans hx124_0
              replace p124 := eq_true p124
              replace q124 := eq_true q124
              go_wp2
              repeat (go_quiet (fail); try go_wp2)
              go_ret
              exact ⟨by first | rfl | (simp [errW_none, errW_some] <;> rfl) | (simp [*, errW_none, errW_some] <;> rfl), BL⟩
            · rw [if_neg c9] at H
              have c9b0 : decide ((rd l1 x5_1) < (rd l0 x5_1)) = false := decide_eq_false c9
              clear c9
              have H' := Aside0.mk H
              clear H
              have p121 : 0 ≤ (x5_1 : Int) := DA
              have q121 : x5_1 < (l0.length : Int) := DA
              obtain ⟨ad121, e121, hx121_0⟩ := Kd.at_int HR0.out x5_1 p121 q121
              cases e121
              replace hx121_0 := (HB.out.cell (World.block_lt_of_cell? w _ hx121_0)).trans hx121_0
              replace p121 := eq_true p121
              replace q121 := eq_true q121
              have p122 : 0 ≤ (x5_1 : Int) := DA
              have q122 : x5_1 < (l1.length : Int) := DA
              obtain ⟨ad122, e122, hx122_0⟩ := Kd.at_int HR1.out x5_1 p122 q122
              cases e122
              replace hx122_0 := (HB.out.cell (World.block_lt_of_cell? w _ hx122_0)).trans hx122_0
              replace p122 := eq_true p122
              replace q122 := eq_true q122
              have p123 : 0 ≤ (x5_1 : Int) := DA
              have q123 : x5_1 < (l0.length : Int) := DA
              obtain ⟨ad123, e123, hx123_0⟩ := Kd.at_int HR0.out x5_1 p123 q123
              obtain rfl : ad121 = ad123 := (by injection e123)
              replace hx123_0 := (HB.out.cell (World.block_lt_of_cell? w _ hx123_0)).trans hx123_0
              replace p123 := eq_true p123
              replace q123 := eq_true q123
              have p124 : 0 ≤ (x5_1 : Int) := DA
              have q124 : x5_1 < (l1.length : Int) := DA
              obtain ⟨ad124, e124, hx124_0⟩ := Kd.at_int HR1.out x5_1 p124 q124
              obtain rfl : ad122 = ad124 := (by injection e124)
              replace hx124_0 := (HB.out.cell (World.block_lt_of_cell? w _ hx124_0)).trans hx124_0
              replace p124 := eq_true p124
              replace q124 := eq_true q124
              go_wp2
              repeat (go_quiet (fail); try go_wp2)
              go_roundg k1
              case measure => have := HK1.out; omega
              case rel => exact ⟨(wrap64 (x5_1 - 1)), (by first | rfl | (simp; done) | (simp [*]; done) | (simp; exact isEmpty_bne _)), H', ⟨by have := HK1.out; omega⟩, ⟨BL⟩⟩
        · rw [if_neg c4] at H
          have c4b0 : decide (0 ≤ x5_1) = false := decide_eq_false c4
          clear c4
          obtain rfl := Option.some.inj H
          go_wp2
          repeat (go_quiet (fail); try go_wp2)
          go_ret
          exact ⟨by first | rfl | (simp [errW_none, errW_some] <;> rfl) | (simp [*, errW_none, errW_some] <;> rfl), BL⟩
  · rw [if_neg c3] at H
    have c3b0 : ((l0.length : Int) == (l1.length : Int)) = false := beq_eq_false_iff_ne.mpr c3
    have c3b1 : ((l0.length : Int) != (l1.length : Int)) = true := bne_iff_ne.mpr c3
    have c3b2 : (l0.length == l1.length) = false := by first | simpa using c3 | (simp at c3 ⊢; omega)
    obtain ⟨ji10, hji10⟩ := let_j (mx (wrap64 ((l0.length : Int) - (l1.length : Int))) 0)
    (first | rw [hji10] at H | simp only [hji10] at H ⊢)
    (try (have hji10l : 0 ≤ ji10 := by (rw [← hji10]; unfold mx; (repeat' split) <;> omega)))
    (try (have hji10m : 0 ≤ ji10 := by omega))
    have hji10_ : (if (wrap64 ((l0.length : Int) - (l1.length : Int))) < 0 then 0 else (wrap64 ((l0.length : Int) - (l1.length : Int)))) = ji10 := hji10
    obtain ⟨ji11, hji11⟩ := let_j (mn (ji10) 1)
    (first | rw [hji11] at H | simp only [hji11] at H ⊢)
    have hji11_ : (if 1 < (ji10) then 1 else (ji10)) = ji11 := hji11
    obtain rfl := Option.some.inj H
    go_enter Tryd.func63, Tryd.ntmps63
    go_wp2
    repeat (go_quiet (fail); try go_wp2)
    go_ret
    exact ⟨by first | rfl | (simp [errW_none, errW_some] <;> rfl) | (simp only [← hji10, ← hji11]; first | rfl | (simp [errW_none, errW_some] <;> rfl)) | (simp [*, errW_none, errW_some] <;> rfl), BL⟩

/-! ### nat_short: function 68 -/
set_option maxHeartbeats 8000000 in
set_option maxRecDepth 100000 in
theorem nat_short.calls (k : Nat) (A0 : Option Addr) (c0 : Nat) (l0 : List Int) (a1 : Int) (r1 : List Int) (r2 : Int) (w : World) (hr0 : Kd.C (Kd.int .u32) w A0 l0.length l0) (hc0 : l0.length ≤ c0) (h : nat_short.f k l0 a1 = some (r1, r2)) :
    Calls Tryd.prog 68 #[.slice A0 l0.length c0, .int .u32 a1] w fun e w' => ∃ v0_ : Value, e = .returned (.tuple #[v0_, .int .u32 r2]) ∧ Kd.R (Kd.int .u32) 34 w' w.heap.size (fun _ => True) v0_ r1 ∧ Below w.heap.size w w' := by
  have HR0 := Aside0.mk hr0
  have HC0 := Aside0.mk hc0
  clear hr0 hc0
  have HB := Aside0.mk (Below.refl w.heap.size w)
  have H : (if 0 ≤ (l0.length : Int) then (if ((l0.length : Int) : Int).toNat ≤ 70368744177664 then (nat_short.l0 k l0 a1 (List.replicate ((l0.length : Int) : Int).toNat 0) 0 (wrap64 ((l0.length : Int) - 1))) else (none)) else (none)) = some (r1, r2) := h
  clear h
  obtain ⟨c3, H⟩ := ite_p H
  have c3b0 := eq_true c3
  have c3b1 : decide (0 ≤ (l0.length : Int)) = true := decide_eq_true c3
  clear c3
  obtain ⟨c4, H⟩ := ite_p H
  have c4b0 := eq_true c4
  have c4b1 : decide (((l0.length : Int) : Int).toNat ≤ 70368744177664) = true := decide_eq_true c4
  clear c4
  obtain ⟨y125, Ny125⟩ := let_p (List.replicate ((l0.length : Int) : Int).toNat 0 : List Int)
  (first | rw [← Ny125.out] at H | simp only [← Ny125.out] at H)
  have H' := Aside0.mk H
  clear H
  go_enter Tryd.func68, Tryd.ntmps68
  go_wp2_with (first | ((with_reducible refine gate_dst (N := 11) rfl ?_); refine Kd.R_make (Kd.int .u32) _ 34 rfl (N := 11) rfl 22 _ _ rfl (l0.length : Int) rfl rfl Tryd.underlying22 (.int .u32 0) 4 info34 rfl (by decide) (by omega) 0 (ok := fun _ => True) (okp := fun _ => True) rfl (fun _ hk => hk) trivial (DA) (Nat.le_trans (Nat.mul_le_mul_right _ (DA : (l0.length : Int).toNat ≤ 70368744177664)) (by omega)) (Below.refl _ _) (Nat.le_refl _) ?_; intro v126 w5 ho6 hb hg_ hnew_; clear hg_ hnew_; (first | rw [← Ny125.out] at ho6 | (simp only [Int.reduceToNat] at ho6; rw [← Ny125.out] at ho6)); have n0_ := Aside0.mk (Kd.R_lower ho6 (below_size BL)); have n1_ := Aside0.mk (below_step BL hb); clear HB; have HO127 := n0_; have HB := n1_; clear n0_ n1_; clear hb ho6))
  go_loopg [7, 8] k (fun kq v7 v8 w' => ∃ (x6_1 : List Int) (x7_1 : Int) (x8_1 : Int), v7 = .int .u64 x7_1 ∧ v8 = .int .i64 x8_1 ∧ Aside0 (nat_short.l0 kq l0 a1 x6_1 x7_1 x8_1 = some (r1, r2)) ∧ Aside0 (kq ≤ k) ∧ Aside0 (Kd.R (Kd.int .u32) 34 w' w.heap.size (fun _ => True) v126 x6_1) ∧ Aside0 (Below w.heap.size w w'))
  case atStart => exact ⟨(y125), (0), (wrap64 ((l0.length : Int) - 1)), (by first | rfl | (simp; done) | (simp [*]; done) | (simp; exact isEmpty_bne _)), (by first | rfl | (simp; done) | (simp [*]; done) | (simp; exact isEmpty_bne _)), H', ⟨Nat.le_refl _⟩, ⟨by (with_reducible repeat (first | apply Kd.R_alloc | apply Kd.R_drewN | apply Kd.R_drew)); exact HO127.out⟩, ⟨BL⟩⟩
  case round =>
    clear H'
    try clear p2
    try clear c3
    try clear c3b0
    try clear c3b1
    try clear c4
    try clear c4b0
    try clear c4b1
    try clear c6
    try clear p6
    obtain ⟨x6_1, x7_1, x8_1, rfl, rfl, HA, HK1, HO_6, HB⟩ := hrel
    cases gk with
    | zero => exact absurd HA.out (by simp [nat_short.l0])
    | succ k1 =>
      have H := HA.out
      clear HA
      simp only [nat_short.l0] at H
      by_cases c7 : x8_1 ≥ 0
      · rw [if_pos c7] at H
        have c7b0 : decide (0 ≤ x8_1) = true := decide_eq_true c7
        clear c7
        obtain ⟨c8, H⟩ := ite_p H
        have c8b0 : decide (0 ≤ x8_1) = true := decide_eq_true c8
        clear c8
        obtain ⟨c9, H⟩ := ite_p H
        have c9b0 : decide (x8_1 < (l0.length : Int)) = true := decide_eq_true c9
        clear c9
        obtain ⟨c10, H⟩ := ite_n H
        have c10b0 : ((IntKind.u64.wrap (a1)) == 0) = false := beq_eq_false_iff_ne.mpr c10
        have c10b1 : ((IntKind.u64.wrap (a1)) != 0) = true := bne_iff_ne.mpr c10
        obtain ⟨c11, H⟩ := ite_p H
        have c11b0 : decide (x8_1 < (x6_1.length : Int)) = true := decide_eq_true c11
        clear c11
        obtain ⟨y129, Ny129⟩ := let_p (x6_1.set (x8_1 : Int).toNat ((IntKind.u64.wrap (Int.tdiv (Go.bits .or .u64 (IntKind.u64.wrap (x7_1 * 4294967296)) (IntKind.u64.wrap (rd l0 x8_1))) (IntKind.u64.wrap (a1)))) % 4294967296) : List Int)
        (first | rw [← Ny129.out] at H | simp only [← Ny129.out] at H)
        have H' := Aside0.mk H
        clear H
        have p128 : 0 ≤ (x8_1 : Int) := DA
        have q128 : x8_1 < (l0.length : Int) := DA
        obtain ⟨ad128, e128, hx128_0⟩ := Kd.at_int HR0.out x8_1 p128 q128
        cases e128
        replace hx128_0 := (HB.out.cell (World.block_lt_of_cell? w _ hx128_0)).trans hx128_0
        replace p128 := eq_true p128
        replace q128 := eq_true q128
        have p12 : 0 ≤ (x8_1 : Int) := DA
        have q12 : (x8_1 : Int) < ((x6_1.length : Int) : Int) := DA
        obtain ⟨go12, co12, eo12, gb12, gl12, cl12, HG12⟩ := Kd.R_form HO_6.out (by omega)
        (first | cases eo12 | (injection eo12 with ea_ en_ ec_; (first | subst ea_ | (injection ea_ with ea_; subst ea_)); subst ec_; clear en_))
        have GB12 := Aside0.mk gb12
        have GG12 := Aside0.mk HG12
        clear gb12 gl12 HG12
        obtain ⟨hx12_0, hf12_0⟩ := Kd.R_celln 0 HO_6.out (x8_1 : Int) p12 q12
        replace p12 := eq_true p12
        replace q12 := eq_true q12
        have HP13 := Kd.R_putg HO_6.out (x8_1 : Int) ((IntKind.u64.wrap (Int.tdiv (Go.bits .or .u64 (IntKind.u64.wrap (x7_1 * 4294967296)) (IntKind.u64.wrap (rd l0 x8_1))) (IntKind.u64.wrap (a1)))) % 4294967296)
        go_wp2_with (first | ((with_reducible refine gate_store (t := 34) (p := 34) rfl ?_); refine store_event (t := 34) (p := 34) (v := ?vo_w14) (w1 := (wr.setCell ⟨go12, (x8_1 : Int).toNat, none⟩ (.int .u32 ((IntKind.u64.wrap (Int.tdiv (Go.bits .or .u64 (IntKind.u64.wrap (x7_1 * 4294967296)) (IntKind.u64.wrap (rd l0 x8_1))) (IntKind.u64.wrap (a1)))) % 4294967296)))) ?hg ?ho ?hn ?hr ?_; (case ho => rfl); (case hg => rfl); (case hn => rfl); (case hr => first | (go_simp; done) | (go_simp; rfl)); intro w14 hw; have hg : wr.grownBy w14 (some go12) := (by rw [hw]; exact HP13.2); have hp_ : Kd.R (Kd.int .u32) 34 w14 w.heap.size (fun _ => True) (.slice (some ⟨go12, 0, none⟩) x6_1.length co12) y129 := (by rw [hw, Ny129.out]; exact HP13.1); clear HP13; have n0_ := Aside0.mk (hp_); have n1_ := Aside0.mk ((by rw [hw]; exact below_set (HB.out) GB12.out : Below w.heap.size w w14)); clear HO_6; clear HB; have HO_6 := n0_; have HB := n1_; clear n0_ n1_; clear hg hw hp_))
        go_roundg k1
        case measure => have := HK1.out; omega
        case rel => exact ⟨(y129), (Int.tmod (Go.bits .or .u64 (IntKind.u64.wrap (x7_1 * 4294967296)) (IntKind.u64.wrap (rd l0 x8_1))) (IntKind.u64.wrap (a1))), (wrap64 (x8_1 - 1)), (by first | rfl | (simp; done) | (simp [*]; done) | (simp; exact isEmpty_bne _)), (by first | rfl | (simp; done) | (simp [*]; done) | (simp; exact isEmpty_bne _)), H', ⟨by have := HK1.out; omega⟩, ⟨by (with_reducible repeat (first | apply Kd.R_alloc | apply Kd.R_drewN | apply Kd.R_drew)); exact HO_6.out⟩, ⟨BL⟩⟩
      · rw [if_neg c7] at H
        have c7b0 : decide (0 ≤ x8_1) = false := decide_eq_false c7
        clear c7
        obtain ⟨t130, A15, H⟩ := bind_p H
        simp only [Option.some.injEq, Prod.mk.injEq] at H
        obtain ⟨rfl, rfl⟩ := H
        obtain ⟨Ao16, co16, eo16⟩ := Kd.R_slice HO_6.out
        subst eo16
        go_wp2_with (first | ((with_reducible refine gate_callee (f := 56) rfl ?_); refine goesL_ (some 40) rfl rfl Tryd.func56 (by kernel_rfl) rfl #[.slice Ao16 x6_1.length co16] rfl EQ ?_; (with_reducible refine (nat_trim.calls k1 (fun k_ => some k_ = (.slice Ao16 x6_1.length co16 : Value).ownBlock) (.slice Ao16 x6_1.length co16) x6_1 t130 w _ ?side1 ?side2 A15.out).mono ?_); (case side1 => repeat (first | (with_reducible first | exact HB.out | apply below_alloc | apply pw_below_drewN | apply below_drew1) | exact HB.out)); (case side2 => exact Kd.R_tight rfl HO_6.out); rintro e w17 ⟨v131, rfl, ho0, hb, hkp⟩; refine ⟨_, rfl, ?_⟩; have n0_ := Aside0.mk (Kd.R_mono (ok' := fun k_ => True) ho0 (fun k_ hk_ => trivial)); have n1_ := Aside0.mk (hb); clear HB; clear HO_6; have HO132 := n0_; have HB := n1_; clear n0_ n1_; (try clear hb); (try clear hkp); (try clear ho0)))
        go_ret2
        exact ⟨_, by first | rfl | (simp [errW_none, errW_some] <;> rfl) | (simp [*, errW_none, errW_some] <;> rfl), by (with_reducible repeat (first | apply Kd.R_alloc | apply Kd.R_drewN | apply Kd.R_drew)); exact HO132.out, BL⟩

/-! ### bits_Len32: function 87 -/
theorem bits_Len32.calls (a0 r : Int) (w : World) (h : bits_Len32.f a0 = some r) :
    Calls Tryd.prog 87 #[.int .u32 a0] w fun e w' => e = .returned (.int .i64 r) ∧ Drawn0 w w' := by
  unfold bits_Len32.f at h
  by_cases hb : 0 ≤ a0 ∧ a0 ≤ 4294967295
  · rw [if_pos hb] at h
    obtain rfl := Option.some.inj h
    exact (Any.bits_Len32 Tryd.lays128 a0 w hb.1 hb.2).mono fun e w' ⟨he, hw⟩ => ⟨he, hw ▸ Drawn0.refl w⟩
  · rw [if_neg hb] at h
    cases h


/-! ### bits_LeadingZeros32: function 78 -/
set_option maxHeartbeats 8000000 in
set_option maxRecDepth 100000 in
theorem bits_LeadingZeros32.calls (a0 : Int) (r : Int) (w : World) (h : bits_LeadingZeros32.f a0 = some r) :
    Calls Tryd.prog 78 #[.int .u32 a0] w fun e w' => e = .returned (.int .i64 r) ∧ Drawn0 w w' := by
  have H : ((bits_Len32.f a0).bind fun t133 => (some (wrap64 (32 - t133)))) = some r := h
  clear h
  obtain ⟨t133, A2, H⟩ := bind_p H
  obtain rfl := Option.some.inj H
  go_enter Tryd.func78, Tryd.ntmps78
  go_wp2_with (first | ((with_reducible refine gate_callee (f := 87) rfl ?_); refine goesL_ (some 4) rfl rfl Tryd.func87 (by kernel_rfl) rfl #[.int .u32 a0] rfl EQ ?_; (with_reducible refine (bits_Len32.calls a0 t133 _ A2.out).mono ?_); rintro e w' ⟨rfl, ⟨nd, rfl⟩⟩; refine ⟨_, rfl, ?_⟩))
  go_ret
  exact ⟨by first | rfl | (simp; done) | (simp [*]; done) | (simp; exact isEmpty_bne _), by repeat (first | exact Drawn0.refl _ | apply Drawn0.step)⟩

/-! ### nat_shift: function 79 -/
set_option maxHeartbeats 8000000 in
set_option maxRecDepth 100000 in
theorem nat_shift.calls (k : Nat) (A0 : Option Addr) (c0 : Nat) (l0 : List Int) (a1 : Int) (r : List Int) (w : World) (hr0 : Kd.C (Kd.int .u32) w A0 l0.length l0) (hc0 : l0.length ≤ c0) (h : nat_shift.f k l0 a1 = some r) :
    Calls Tryd.prog 79 #[.slice A0 l0.length c0, .int .i64 a1] w fun e w' => ∃ v0_ : Value, e = .returned (v0_) ∧ Kd.R (Kd.int .u32) 34 w' w.heap.size (fun _ => True) v0_ r ∧ Below w.heap.size w w' := by
  have HR0 := Aside0.mk hr0
  have HC0 := Aside0.mk hc0
  clear hr0 hc0
  have HB := Aside0.mk (Below.refl w.heap.size w)
  have H : (if 0 ≤ (wrap64 ((l0.length : Int) + 1)) then (if (wrap64 ((l0.length : Int) + 1) : Int).toNat ≤ 70368744177664 then (nat_shift.l0 k l0 a1 (List.replicate (wrap64 ((l0.length : Int) + 1) : Int).toNat 0) 0 l0 (l0.length : Int) 0) else (none)) else (none)) = some r := h
  clear h
  obtain ⟨ji3, hji3⟩ := let_j (wrap64 ((l0.length : Int) + 1))
  (first | rw [hji3] at H | simp only [hji3] at H ⊢)
  have hji3w : (IntKind.i64.wrap ((l0.length : Int) + 1)) = ji3 := (i64_w _).trans hji3
  obtain ⟨c4, H⟩ := ite_p H
  have c4b0 := eq_true c4
  have c4b1 : decide (0 ≤ (ji3)) = true := decide_eq_true c4
  clear c4
  obtain ⟨c5, H⟩ := ite_p H
  have c5b0 := eq_true c5
  have c5b1 : decide ((ji3 : Int).toNat ≤ 70368744177664) = true := decide_eq_true c5
  clear c5
  obtain ⟨y134, Ny134⟩ := let_p (List.replicate (ji3 : Int).toNat 0 : List Int)
  (first | rw [← Ny134.out] at H | simp only [← Ny134.out] at H)
  have H' := Aside0.mk H
  clear H
  go_enter Tryd.func79, Tryd.ntmps79
  go_wp2_with (first | ((with_reducible refine gate_dst (N := 12) rfl ?_); refine Kd.R_make (Kd.int .u32) _ 34 rfl (N := 12) rfl 22 _ _ rfl ji3 rfl rfl Tryd.underlying22 (.int .u32 0) 4 info34 rfl (by decide) (by omega) 0 (ok := fun _ => True) (okp := fun _ => True) rfl (fun _ hk => hk) trivial (DA) (Nat.le_trans (Nat.mul_le_mul_right _ (DA : ji3.toNat ≤ 70368744177664)) (by omega)) (Below.refl _ _) (Nat.le_refl _) ?_; intro v135 w6 ho7 hb hg_ hnew_; clear hg_ hnew_; (first | rw [← Ny134.out] at ho7 | (simp only [Int.reduceToNat] at ho7; rw [← Ny134.out] at ho7)); have n0_ := Aside0.mk (Kd.R_lower ho7 (below_size BL)); have n1_ := Aside0.mk (below_step BL hb); clear HB; have HO136 := n0_; have HB := n1_; clear n0_ n1_; clear hb ho7))
  go_loopg [6, 15] k (fun kq v6 v15 w' => ∃ (x5_1 : List Int) (x6_1 : Int) (x15_1 : Int), v6 = .int .u32 x6_1 ∧ v15 = .int .i64 x15_1 ∧ Aside0 (nat_shift.l0 kq l0 a1 x5_1 x6_1 l0 (l0.length : Int) x15_1 = some r) ∧ Aside0 (kq ≤ k) ∧ Aside0 (Kd.R (Kd.int .u32) 34 w' w.heap.size (fun _ => True) v135 x5_1) ∧ Aside0 (Below w.heap.size w w'))
  case atStart => exact ⟨(y134), (0), (0), (by first | rfl | (simp; done) | (simp [*]; done) | (simp; exact isEmpty_bne _)), (by first | rfl | (simp; done) | (simp [*]; done) | (simp; exact isEmpty_bne _)), H', ⟨Nat.le_refl _⟩, ⟨by (with_reducible repeat (first | apply Kd.R_alloc | apply Kd.R_drewN | apply Kd.R_drew)); exact HO136.out⟩, ⟨BL⟩⟩
  case round =>
    clear H'
    try clear p2
    try clear c4
    try clear c4b0
    try clear c4b1
    try clear c5
    try clear c5b0
    try clear c5b1
    try clear p6
    try clear c7
    obtain ⟨x5_1, x6_1, x15_1, rfl, rfl, HA, HK1, HO_5, HB⟩ := hrel
    cases gk with
    | zero => exact absurd HA.out (by simp [nat_shift.l0])
    | succ k1 =>
      have H := HA.out
      clear HA
      simp only [nat_shift.l0] at H
      by_cases c8 : x15_1 < (l0.length : Int)
      · rw [if_pos c8] at H
        have c8b0 : decide (x15_1 < (l0.length : Int)) = true := decide_eq_true c8
        clear c8
        obtain ⟨c9, H⟩ := ite_p H
        have c9b0 : decide (0 ≤ x15_1) = true := decide_eq_true c9
        clear c9
        obtain ⟨c10, H⟩ := ite_p H
        have c10b0 : decide (x15_1 < (l0.length : Int)) = true := decide_eq_true c10
        clear c10
        obtain ⟨c11, H⟩ := ite_p H
        have c11b0 := eq_true c11
        have c11b1 : decide (0 ≤ a1) = true := decide_eq_true c11
        clear c11
        obtain ⟨ji12, hji12⟩ := let_j (shl .u32 (rd l0 x15_1) a1)
        (first | rw [hji12] at H | simp only [hji12] at H ⊢)
        have hji12_ : (IntKind.u32.wrap ((rd l0 x15_1) * 2 ^ min a1.toNat 32)) = ji12 := hji12
        have hji12z : a1 ≤ 32 → (IntKind.u32.wrap ((rd l0 x15_1) * 2 ^ a1.toNat)) = ji12 := shl_small hji12
        obtain ⟨c13, H⟩ := ite_p H
        have c13b0 : decide (x15_1 < (x5_1.length : Int)) = true := decide_eq_true c13
        clear c13
        obtain ⟨y138, Ny138⟩ := let_p (x5_1.set (x15_1 : Int).toNat (Go.bits .or .u32 (ji12) x6_1) : List Int)
        (first | rw [← Ny138.out] at H | simp only [← Ny138.out] at H)
        obtain ⟨ji15, hji15⟩ := let_j (wrap64 (32 - a1))
        (first | rw [hji15] at H | simp only [hji15] at H ⊢)
        have hji15w : (IntKind.i64.wrap (32 - a1)) = ji15 := (i64_w _).trans hji15
        obtain ⟨c16, H⟩ := ite_p H
        have c16b0 := eq_true c16
        have c16b1 : decide (0 ≤ (ji15)) = true := decide_eq_true c16
        clear c16
        obtain ⟨ji17, hji17⟩ := let_j (shr .u64 (IntKind.u64.wrap (rd l0 x15_1)) (ji15))
        (first | rw [hji17] at H | simp only [hji17] at H ⊢)
        have hji17_ : ((IntKind.u64.wrap (rd l0 x15_1)) / 2 ^ min (ji15).toNat 64) = ji17 := hji17
        have hji17z : (ji15) ≤ 64 → ((IntKind.u64.wrap (rd l0 x15_1)) / 2 ^ (ji15).toNat) = ji17 := shr_small hji17
        have H' := Aside0.mk H
        clear H
        have p137 : 0 ≤ (x15_1 : Int) := DA
        have q137 : x15_1 < (l0.length : Int) := DA
        obtain ⟨ad137, e137, hx137_0⟩ := Kd.at_int HR0.out x15_1 p137 q137
        cases e137
        replace hx137_0 := (HB.out.cell (World.block_lt_of_cell? w _ hx137_0)).trans hx137_0
        replace p137 := eq_true p137
        replace q137 := eq_true q137
        have p14 : 0 ≤ (x15_1 : Int) := DA
        have q14 : (x15_1 : Int) < ((x5_1.length : Int) : Int) := DA
        obtain ⟨go14, co14, eo14, gb14, gl14, cl14, HG14⟩ := Kd.R_form HO_5.out (by omega)
        (first | cases eo14 | (injection eo14 with ea_ en_ ec_; (first | subst ea_ | (injection ea_ with ea_; subst ea_)); subst ec_; clear en_))
        have GB14 := Aside0.mk gb14
        have GG14 := Aside0.mk HG14
        clear gb14 gl14 HG14
        obtain ⟨hx14_0, hf14_0⟩ := Kd.R_celln 0 HO_5.out (x15_1 : Int) p14 q14
        replace p14 := eq_true p14
        replace q14 := eq_true q14
        have HP18 := Kd.R_putg HO_5.out (x15_1 : Int) (Go.bits .or .u32 (ji12) x6_1)
        go_wp2_with (first | ((with_reducible refine gate_store (t := 34) (p := 27) rfl ?_); refine store_event (t := 34) (p := 27) (v := ?vo_w19) (w1 := (wr.setCell ⟨go14, (x15_1 : Int).toNat, none⟩ (.int .u32 (Go.bits .or .u32 (ji12) x6_1)))) ?hg ?ho ?hn ?hr ?_; (case ho => rfl); (case hg => rfl); (case hn => rfl); (case hr => first | (go_simp; done) | (go_simp; rfl)); intro w19 hw; have hg : wr.grownBy w19 (some go14) := (by rw [hw]; exact HP18.2); have hp_ : Kd.R (Kd.int .u32) 34 w19 w.heap.size (fun _ => True) (.slice (some ⟨go14, 0, none⟩) x5_1.length co14) y138 := (by rw [hw, Ny138.out]; exact HP18.1); clear HP18; have n0_ := Aside0.mk (hp_); have n1_ := Aside0.mk ((by rw [hw]; exact below_set (HB.out) GB14.out : Below w.heap.size w w19)); clear HO_5; clear HB; have HO_5 := n0_; have HB := n1_; clear n0_ n1_; clear hg hw hp_))
        go_roundg k1
        case measure => have := HK1.out; omega
        case rel => exact ⟨(y138), ((ji17) % 4294967296), (wrap64 (x15_1 + 1)), (by first | rfl | (simp; done) | (simp only [← hji17] <;> (first | rfl | simp)) | (simp [*]; done)), (by first | rfl | (simp; done) | (simp [*]; done) | (simp; exact isEmpty_bne _)), H', ⟨by have := HK1.out; omega⟩, ⟨by (with_reducible repeat (first | apply Kd.R_alloc | apply Kd.R_drewN | apply Kd.R_drew)); exact HO_5.out⟩, ⟨BL⟩⟩
      · rw [if_neg c8] at H
        have c8b0 : decide (x15_1 < (l0.length : Int)) = false := decide_eq_false c8
        clear c8
        obtain ⟨c20, H⟩ := ite_p H
        have c20b0 : decide (0 ≤ (l0.length : Int)) = true := decide_eq_true c20
        have c20b1 : decide (0 ≤ l0.length) = true := decide_eq_true (by omega)
        clear c20
        obtain ⟨c21, H⟩ := ite_p H
        have c21b0 : decide ((l0.length : Int) < (x5_1.length : Int)) = true := decide_eq_true c21
        have c21b1 : decide (l0.length < x5_1.length) = true := decide_eq_true (Int.ofNat_lt.mp c21)
        clear c21
        obtain ⟨y139, Ny139⟩ := let_p (x5_1.set ((l0.length : Int) : Int).toNat x6_1 : List Int)
        (first | rw [← Ny139.out] at H | simp only [← Ny139.out] at H)
        obtain rfl := Option.some.inj H
        have p22 : 0 ≤ ((l0.length : Int) : Int) := DA
        have q22 : ((l0.length : Int) : Int) < ((x5_1.length : Int) : Int) := DA
        obtain ⟨go22, co22, eo22, gb22, gl22, cl22, HG22⟩ := Kd.R_form HO_5.out (by omega)
        (first | cases eo22 | (injection eo22 with ea_ en_ ec_; (first | subst ea_ | (injection ea_ with ea_; subst ea_)); subst ec_; clear en_))
        have GB22 := Aside0.mk gb22
        have GG22 := Aside0.mk HG22
        clear gb22 gl22 HG22
        obtain ⟨hx22_0, hf22_0⟩ := Kd.R_celln 0 HO_5.out ((l0.length : Int) : Int) p22 q22
        try (simp only [Int.toNat_natCast] at hx22_0 hf22_0)
        replace p22 := eq_true p22
        replace q22 := eq_true q22
        have HP23 := Kd.R_putg HO_5.out ((l0.length : Int) : Int) x6_1
        go_wp2_with (first | ((with_reducible refine gate_store (t := 34) (p := 39) rfl ?_); refine store_event (t := 34) (p := 39) (v := ?vo_w24) (w1 := (wr.setCell ⟨go22, ((l0.length : Int) : Int).toNat, none⟩ (.int .u32 x6_1))) ?hg ?ho ?hn ?hr ?_; (case ho => rfl); (case hg => rfl); (case hn => rfl); (case hr => first | (go_simp; done) | (go_simp; rfl)); intro w24 hw; have hg : wr.grownBy w24 (some go22) := (by rw [hw]; exact HP23.2); have hp_ : Kd.R (Kd.int .u32) 34 w24 w.heap.size (fun _ => True) (.slice (some ⟨go22, 0, none⟩) x5_1.length co22) y139 := (by rw [hw, Ny139.out]; exact HP23.1); clear HP23; have n0_ := Aside0.mk (hp_); have n1_ := Aside0.mk ((by rw [hw]; exact below_set (HB.out) GB22.out : Below w.heap.size w w24)); clear HO_5; clear HB; have HO_5 := n0_; have HB := n1_; clear n0_ n1_; clear hg hw hp_))
        go_ret
        exact ⟨_, by first | rfl | (simp [errW_none, errW_some] <;> rfl) | (simp only [← hji3]; first | rfl | (simp [errW_none, errW_some] <;> rfl)) | (simp [*, errW_none, errW_some] <;> rfl), by (with_reducible repeat (first | apply Kd.R_alloc | apply Kd.R_drewN | apply Kd.R_drew)); exact HO_5.out, BL⟩

/-! ### nat_guess: function 80 -/
set_option maxHeartbeats 8000000 in
set_option maxRecDepth 100000 in
theorem nat_guess.calls (k : Nat) (A0 : Option Addr) (c0 : Nat) (l0 : List Int) (A1 : Option Addr) (c1 : Nat) (l1 : List Int) (a2 : Int) (r : Int) (w : World) (hr0 : Kd.C (Kd.int .u32) w A0 l0.length l0) (hc0 : l0.length ≤ c0) (hr1 : Kd.C (Kd.int .u32) w A1 l1.length l1) (hc1 : l1.length ≤ c1) (h : nat_guess.f k l0 l1 a2 = some r) :
    Calls Tryd.prog 80 #[.slice A0 l0.length c0, .slice A1 l1.length c1, .int .i64 a2] w fun e w' => e = .returned (.int .u64 r) ∧ Drawn0 w w' := by
  have HR0 := Aside0.mk hr0
  have HC0 := Aside0.mk hc0
  clear hr0 hc0
  have HR1 := Aside0.mk hr1
  have HC1 := Aside0.mk hc1
  clear hr1 hc1
  have H : (if 0 ≤ (wrap64 (a2 + (l1.length : Int))) then (if (wrap64 (a2 + (l1.length : Int))) < (l0.length : Int) then (if 0 ≤ (wrap64 ((wrap64 (a2 + (l1.length : Int))) - 1)) then (if (wrap64 ((wrap64 (a2 + (l1.length : Int))) - 1)) < (l0.length : Int) then (if 0 ≤ (wrap64 ((l1.length : Int) - 1)) then (if (wrap64 ((l1.length : Int) - 1)) < (l1.length : Int) then (if (IntKind.u64.wrap (rd l1 (wrap64 ((l1.length : Int) - 1)))) = 0 then (none) else (nat_guess.l0 k l0 l1 a2 (l1.length : Int) (IntKind.u64.wrap (Int.tdiv (Go.bits .or .u64 (IntKind.u64.wrap ((IntKind.u64.wrap (rd l0 (wrap64 (a2 + (l1.length : Int))))) * 4294967296)) (IntKind.u64.wrap (rd l0 (wrap64 ((wrap64 (a2 + (l1.length : Int))) - 1))))) (IntKind.u64.wrap (rd l1 (wrap64 ((l1.length : Int) - 1)))))) (Int.tmod (Go.bits .or .u64 (IntKind.u64.wrap ((IntKind.u64.wrap (rd l0 (wrap64 (a2 + (l1.length : Int))))) * 4294967296)) (IntKind.u64.wrap (rd l0 (wrap64 ((wrap64 (a2 + (l1.length : Int))) - 1))))) (IntKind.u64.wrap (rd l1 (wrap64 ((l1.length : Int) - 1))))))) else (none)) else (none)) else (none)) else (none)) else (none)) else (none)) = some r := h
  clear h
  obtain ⟨ji4, hji4⟩ := let_j (wrap64 (a2 + (l1.length : Int)))
  (first | rw [hji4] at H | simp only [hji4] at H ⊢)
  have hji4w : (IntKind.i64.wrap (a2 + (l1.length : Int))) = ji4 := (i64_w _).trans hji4
  obtain ⟨c5, H⟩ := ite_p H
  have c5b0 : decide (0 ≤ (ji4)) = true := decide_eq_true c5
  clear c5
  obtain ⟨c6, H⟩ := ite_p H
  have c6b0 : decide ((ji4) < (l0.length : Int)) = true := decide_eq_true c6
  clear c6
  obtain ⟨ji7, hji7⟩ := let_j (wrap64 ((ji4) - 1))
  (first | rw [hji7] at H | simp only [hji7] at H ⊢)
  have hji7w : (IntKind.i64.wrap ((ji4) - 1)) = ji7 := (i64_w _).trans hji7
  obtain ⟨c8, H⟩ := ite_p H
  have c8b0 : decide (0 ≤ (ji7)) = true := decide_eq_true c8
  clear c8
  obtain ⟨c9, H⟩ := ite_p H
  have c9b0 : decide ((ji7) < (l0.length : Int)) = true := decide_eq_true c9
  clear c9
  obtain ⟨ji10, hji10⟩ := let_j (wrap64 ((l1.length : Int) - 1))
  (first | rw [hji10] at H | simp only [hji10] at H ⊢)
  have hji10w : (IntKind.i64.wrap ((l1.length : Int) - 1)) = ji10 := (i64_w _).trans hji10
  obtain ⟨c11, H⟩ := ite_p H
  have c11b0 : decide (0 ≤ (ji10)) = true := decide_eq_true c11
  clear c11
  obtain ⟨c12, H⟩ := ite_p H
  have c12b0 : decide ((ji10) < (l1.length : Int)) = true := decide_eq_true c12
  clear c12
  obtain ⟨c13, H⟩ := ite_n H
  have c13b0 : ((IntKind.u64.wrap (rd l1 (ji10))) == 0) = false := beq_eq_false_iff_ne.mpr c13
  have c13b1 : ((IntKind.u64.wrap (rd l1 (ji10))) != 0) = true := bne_iff_ne.mpr c13
  have H' := Aside0.mk H
  clear H
  have p140 : 0 ≤ ((ji4) : Int) := DA
  have q140 : (ji4) < (l0.length : Int) := DA
  obtain ⟨ad140, e140, hx140_0⟩ := Kd.at_int HR0.out (ji4) p140 q140
  cases e140
  replace p140 := eq_true p140
  replace q140 := eq_true q140
  have p141 : 0 ≤ ((ji7) : Int) := DA
  have q141 : (ji7) < (l0.length : Int) := DA
  obtain ⟨ad141, e141, hx141_0⟩ := Kd.at_int HR0.out (ji7) p141 q141
  obtain rfl : ad140 = ad141 := (by injection e141)
  replace p141 := eq_true p141
  replace q141 := eq_true q141
  have p142 : 0 ≤ ((ji10) : Int) := DA
  have q142 : (ji10) < (l1.length : Int) := DA
  obtain ⟨ad142, e142, hx142_0⟩ := Kd.at_int HR1.out (ji10) p142 q142
  cases e142
  replace p142 := eq_true p142
  replace q142 := eq_true q142
  have p143 : 0 ≤ ((ji10) : Int) := DA
  have q143 : (ji10) < (l1.length : Int) := DA
  obtain ⟨ad143, e143, hx143_0⟩ := Kd.at_int HR1.out (ji10) p143 q143
  obtain rfl : ad142 = ad143 := (by injection e143)
  replace p143 := eq_true p143
  replace q143 := eq_true q143
  go_enter Tryd.func80, Tryd.ntmps80
  go_wp2
  repeat (go_quiet (fail); try go_wp2)
  go_loopg [9, 10] k (fun kq v9 v10 w' => ∃ (x9_1 : Int) (x10_1 : Int), v9 = .int .u64 x9_1 ∧ v10 = .int .u64 x10_1 ∧ Aside0 (nat_guess.l0 kq l0 l1 a2 (l1.length : Int) x9_1 x10_1 = some r) ∧ Aside0 (kq ≤ k) ∧ Drawn0 w w')
  case atStart => exact ⟨(IntKind.u64.wrap (Int.tdiv (Go.bits .or .u64 (IntKind.u64.wrap ((IntKind.u64.wrap (rd l0 (ji4))) * 4294967296)) (IntKind.u64.wrap (rd l0 (ji7)))) (IntKind.u64.wrap (rd l1 (ji10))))), (Int.tmod (Go.bits .or .u64 (IntKind.u64.wrap ((IntKind.u64.wrap (rd l0 (ji4))) * 4294967296)) (IntKind.u64.wrap (rd l0 (ji7)))) (IntKind.u64.wrap (rd l1 (ji10)))), (by first | rfl | (simp; done) | (simp only [← hji4, ← hji7, ← hji10] <;> (first | rfl | simp)) | (simp [*]; done)), (by first | rfl | (simp; done) | (simp only [← hji4, ← hji7, ← hji10] <;> (first | rfl | simp)) | (simp [*]; done)), H', ⟨Nat.le_refl _⟩, by repeat (first | exact Drawn0.refl _ | apply Drawn0.step)⟩
  case round =>
    clear H'
    try clear c1
    try clear p1
    try clear q1
    try clear hx1
    try clear p2
    try clear c5
    try clear c5b0
    try clear c6
    try clear c6b0
    try clear p6
    try clear c8
    try clear c8b0
    try clear c9
    try clear c9b0
    try clear c11
    try clear c11b0
    try clear c12
    try clear c12b0
    try clear c13
    try clear c13b0
    try clear c13b1
    try clear hx140_0
    try clear hx141_0
    try clear hx142_0
    try clear hx143_0
    try clear p140
    try clear p141
    try clear p142
    try clear p143
    try clear q140
    try clear q141
    try clear q142
    try clear q143
    obtain ⟨x9_1, x10_1, rfl, rfl, HA, HK1, ⟨m1, rfl⟩⟩ := hrel
    cases gk with
    | zero => exact absurd HA.out (by simp [nat_guess.l0])
    | succ k1 =>
      have H := HA.out
      clear HA
      simp only [nat_guess.l0] at H
      have HC14 := Aside0.mk H
      clear H
      go_upto_region 4 with (fail)
      repeat (go_quiet (fail); go_upto_region 4 with (fail))
      go_cut [69] (fun v69 wc => ∃ (kq : Nat) (x69_13 : Bool), v69 = .bool x69_13 ∧ Aside0 (nat_guess.j1 kq l0 l1 a2 (l1.length : Int) x9_1 x10_1 x69_13 = some r) ∧ Aside0 (kq ≤ k1) ∧ Drawn0 w wc)
      case first =>
        have H := HC14.out
        clear HC14
        by_cases c15 : x9_1 > 4294967295
        · rw [if_pos c15] at H
          have c15b0 : decide (4294967295 < x9_1) = true := decide_eq_true c15
          clear c15
          (first | rw [c15b0] | (simp only [i64_w, i32_w]; rw [c15b0]) | skip)
          have H' := Aside0.mk H
          clear H
          go_wp2
          repeat (go_quiet (fail); try go_wp2)
          go_meet
          case rel => exact ⟨_, (true), (by first | rfl | (simp; done) | (simp [*]; done) | (simp; exact isEmpty_bne _)), H', ⟨by have := HK1.out; first | omega | exact Nat.le_refl _⟩, by repeat (first | exact Drawn0.refl _ | apply Drawn0.step)⟩
        · rw [if_neg c15] at H
          have c15b0 : decide (4294967295 < x9_1) = false := decide_eq_false c15
          clear c15
          (first | rw [c15b0] | (simp only [i64_w, i32_w]; rw [c15b0]) | skip)
          obtain ⟨ji16, hji16⟩ := let_j (wrap64 ((l1.length : Int) - 2))
          (first | rw [hji16] at H | simp only [hji16] at H ⊢)
          have hji16w : (IntKind.i64.wrap ((l1.length : Int) - 2)) = ji16 := (i64_w _).trans hji16
          obtain ⟨c17, H⟩ := ite_p H
          have c17b0 : decide (0 ≤ (ji16)) = true := decide_eq_true c17
          clear c17
          obtain ⟨c18, H⟩ := ite_p H
          have c18b0 : decide ((ji16) < (l1.length : Int)) = true := decide_eq_true c18
          clear c18
          obtain ⟨ji19, hji19⟩ := let_j (wrap64 ((wrap64 (a2 + (l1.length : Int))) - 2))
          (first | rw [hji19] at H | simp only [hji19] at H ⊢)
          have hji19w : (IntKind.i64.wrap ((wrap64 (a2 + (l1.length : Int))) - 2)) = ji19 := (i64_w _).trans hji19
          (try (have hji19kji4 := hji19; simp only [hji4] at hji19kji4))
          (try (have hji19vji4 := hji19w; simp only [hji4] at hji19vji4))
          obtain ⟨c20, H⟩ := ite_p H
          have c20b0 : decide (0 ≤ (ji19)) = true := decide_eq_true c20
          clear c20
          obtain ⟨c21, H⟩ := ite_p H
          have c21b0 : decide ((ji19) < (l0.length : Int)) = true := decide_eq_true c21
          clear c21
          have H' := Aside0.mk H
          clear H
          have p144 : 0 ≤ ((ji16) : Int) := DA
          have q144 : (ji16) < (l1.length : Int) := DA
          obtain ⟨ad144, e144, hx144_0⟩ := Kd.at_int HR1.out (ji16) p144 q144
          obtain rfl : ad142 = ad144 := (by injection e144)
          replace p144 := eq_true p144
          replace q144 := eq_true q144
          have p145 : 0 ≤ ((ji19) : Int) := DA
          have q145 : (ji19) < (l0.length : Int) := DA
          obtain ⟨ad145, e145, hx145_0⟩ := Kd.at_int HR0.out (ji19) p145 q145
          obtain rfl : ad140 = ad145 := (by injection e145)
          replace p145 := eq_true p145
          replace q145 := eq_true q145
          go_wp2
          repeat (go_quiet (fail); try go_wp2)
          go_meet
          case rel => exact ⟨_, (decide ((IntKind.u64.wrap (x9_1 * (IntKind.u64.wrap (rd l1 (ji16))))) > (Go.bits .or .u64 (IntKind.u64.wrap (x10_1 * 4294967296)) (IntKind.u64.wrap (rd l0 (ji19)))))), (by first | rfl | (simp; done) | (simp only [← hji16, ← hji19] <;> (first | rfl | simp)) | (simp [*]; done)), H', ⟨by have := HK1.out; first | omega | exact Nat.le_refl _⟩, by repeat (first | exact Drawn0.refl _ | apply Drawn0.step)⟩
      case rest =>
        clear HC14
        try clear c1
        try clear p1
        try clear q1
        try clear hx1
        try clear c2
        try clear p2
        try clear c5
        try clear c5b0
        try clear c6
        try clear c6b0
        try clear p6
        try clear c8
        try clear c8b0
        try clear c9
        try clear c9b0
        try clear c11
        try clear c11b0
        try clear c12
        try clear c12b0
        try clear c13
        try clear c13b0
        try clear c13b1
        try clear p14
        try clear q14
        try clear hx14
        try clear c15
        try clear c15b0
        try clear c17
        try clear c17b0
        try clear c18
        try clear c18b0
        try clear c20
        try clear c20b0
        try clear c21
        try clear c21b0
        try clear hx140_0
        try clear hx141_0
        try clear hx142_0
        try clear hx143_0
        try clear hx144_0
        try clear hx145_0
        try clear p1
        try clear p140
        try clear p141
        try clear p142
        try clear p143
        try clear p144
        try clear p145
        try clear p2
        try clear p6
        try clear q1
        try clear q140
        try clear q141
        try clear q142
        try clear q143
        try clear q144
        try clear q145
        obtain ⟨kq, x69_13, rfl, HA, HJ13, ⟨mc13, rfl⟩⟩ := hcut
        cases kq with
        | zero => exact absurd HA.out (by simp [nat_guess.j1])
        | succ kj13 =>
          have H := HA.out
          clear HA
          simp only [nat_guess.j1] at H
          by_cases c22 : x69_13 = true
          · subst c22
            have H1 : (if 0 ≤ (wrap64 ((l1.length : Int) - 1)) then (if (wrap64 ((l1.length : Int) - 1)) < (l1.length : Int) then (if (IntKind.u64.wrap (x10_1 + (IntKind.u64.wrap (rd l1 (wrap64 ((l1.length : Int) - 1)))))) > 4294967295 then (some (IntKind.u64.wrap (x9_1 - 1))) else (nat_guess.l0 kj13 l0 l1 a2 (l1.length : Int) (IntKind.u64.wrap (x9_1 - 1)) (IntKind.u64.wrap (x10_1 + (IntKind.u64.wrap (rd l1 (wrap64 ((l1.length : Int) - 1)))))))) else (none)) else (none)) = some r := by rw [if_pos rfl] at H; exact H
            clear H
            have H := H1
            clear H1
            (first | rw [hji10] at H | simp only [hji10] at H ⊢)
            obtain ⟨c23, H⟩ := ite_p H
            have c23b0 : decide (0 ≤ (ji10)) = true := decide_eq_true c23
            clear c23
            obtain ⟨c24, H⟩ := ite_p H
            have c24b0 : decide ((ji10) < (l1.length : Int)) = true := decide_eq_true c24
            clear c24
            by_cases c25 : (IntKind.u64.wrap (x10_1 + (IntKind.u64.wrap (rd l1 (ji10))))) > 4294967295
            · rw [if_pos c25] at H
              have c25b0 : decide (4294967295 < (IntKind.u64.wrap (x10_1 + (IntKind.u64.wrap (rd l1 (ji10)))))) = true := decide_eq_true c25
              clear c25
              obtain rfl := Option.some.inj H
              have p146 : 0 ≤ ((ji10) : Int) := DA
              have q146 : (ji10) < (l1.length : Int) := DA
              obtain ⟨ad146, e146, hx146_0⟩ := Kd.at_int HR1.out (ji10) p146 q146
              obtain rfl : ad142 = ad146 := (by injection e146)
              replace p146 := eq_true p146
              replace q146 := eq_true q146
              go_wp2
              repeat (go_quiet (fail); try go_wp2)
              go_ret
              exact ⟨by first | rfl | (simp; done) | (simp only [← hji4, ← hji7, ← hji10] <;> (first | rfl | simp)) | (simp [*]; done), by repeat (first | exact Drawn0.refl _ | apply Drawn0.step)⟩
            · rw [if_neg c25] at H
              have c25b0 : decide (4294967295 < (IntKind.u64.wrap (x10_1 + (IntKind.u64.wrap (rd l1 (ji10)))))) = false := decide_eq_false c25
              clear c25
              have H' := Aside0.mk H
              clear H
              have p146 : 0 ≤ ((ji10) : Int) := DA
              have q146 : (ji10) < (l1.length : Int) := DA
              obtain ⟨ad146, e146, hx146_0⟩ := Kd.at_int HR1.out (ji10) p146 q146
              obtain rfl : ad142 = ad146 := (by injection e146)
              replace p146 := eq_true p146
              replace q146 := eq_true q146
              go_wp2
              repeat (go_quiet (fail); try go_wp2)
              go_roundg kj13
              case measure => have := HK1.out; have := HJ13.out; omega
              case rel => exact ⟨(IntKind.u64.wrap (x9_1 - 1)), (IntKind.u64.wrap (x10_1 + (IntKind.u64.wrap (rd l1 (ji10))))), (by first | rfl | (simp; done) | (simp [*]; done) | (simp; exact isEmpty_bne _)), (by first | rfl | (simp; done) | (simp only [← hji10] <;> (first | rfl | simp)) | (simp [*]; done)), H', ⟨by have := HK1.out; have := HJ13.out; omega⟩, by repeat (first | exact Drawn0.refl _ | apply Drawn0.step)⟩
          · replace c22 := Bool.eq_false_iff.mpr c22
            subst c22
            have H1 : (some x9_1) = some r := by rw [if_neg (show ¬ (false = true) by decide)] at H; exact H
            clear H
            have H := H1
            clear H1
            obtain rfl := Option.some.inj H
            go_wp2
            repeat (go_quiet (fail); try go_wp2)
            go_ret
            exact ⟨by first | rfl | (simp; done) | (simp only [← hji4, ← hji7, ← hji10] <;> (first | rfl | simp)) | (simp [*]; done), by repeat (first | exact Drawn0.refl _ | apply Drawn0.step)⟩

/-! ### nat_take: function 81 -/
set_option maxHeartbeats 8000000 in
set_option maxRecDepth 100000 in
theorem nat_take.calls (k : Nat) (P0_ : Nat → Prop) (u9000_ : Value) (l0 : List Int) (A1 : Option Addr) (c1 : Nat) (l1 : List Int) (a2 : Int) (a3 : Int) (r1 : Bool) (r2 : List Int) (w0 w : World) (hB : Below w0.heap.size w0 w) (ho0 : Kd.R (Kd.int .u32) 34 w w0.heap.size P0_ u9000_ l0) (hr1 : ∀ W_, Kept w W_ (fun k_ => P0_ k_) → Kd.C (Kd.int .u32) W_ A1 l1.length l1) (hc1 : l1.length ≤ c1) (h : nat_take.f k l0 l1 a2 a3 = some (r1, r2)) :
    Calls Tryd.prog 81 #[u9000_, .slice A1 l1.length c1, .int .i64 a2, .int .u64 a3] w fun e w' => e = .returned (.bool r1) ∧ Kd.R (Kd.int .u32) 34 w' w0.heap.size (fun k_ => (P0_ k_ ∨ w.heap.size ≤ k_)) u9000_ r2 ∧ Below w0.heap.size w0 w' ∧ Kept w w' (fun k_ => P0_ k_) := by
  have HO0 := Aside0.mk (show Kd.R (Kd.int .u32) 34 w w0.heap.size (fun k_ => (P0_ k_ ∨ w.heap.size ≤ k_)) u9000_ l0 from Kd.R_mono ho0 (fun k_ hk => (.inl hk)))
  have HR1 := Aside0.mk hr1
  have HC1 := Aside0.mk hc1
  clear hr1 hc1
  have HK := Aside0.mk (Kept.refl w (fun k_ => P0_ k_))
  have HW0 := Aside0.mk hB.size
  have HB := Aside0.mk hB
  clear hB
  have H : (nat_take.l0 k l0 l1 a2 a3 0 0 (l1.length : Int) 0) = some (r1, r2) := h
  clear h
  have H' := Aside0.mk H
  clear H
  go_enter Tryd.func81, Tryd.ntmps81
  go_wp2
  go_loopg [9, 10, 16] k (fun kq v9 v10 v16 w' => ∃ (x0_1 : List Int) (x9_1 : Int) (x10_1 : Int) (x16_1 : Int), v9 = .int .u64 x9_1 ∧ v10 = .int .u64 x10_1 ∧ v16 = .int .i64 x16_1 ∧ Aside0 (nat_take.l0 kq x0_1 l1 a2 a3 x9_1 x10_1 (l1.length : Int) x16_1 = some (r1, r2)) ∧ Aside0 (kq ≤ k) ∧ Aside0 (Kd.R (Kd.int .u32) 34 w' w0.heap.size (fun k_ => (P0_ k_ ∨ w.heap.size ≤ k_)) u9000_ x0_1) ∧ Aside0 (Kept w w' (fun k_ => P0_ k_)) ∧ Aside0 (Below w0.heap.size w0 w'))
  case atStart => exact ⟨(l0), (0), (0), (0), (by first | rfl | (simp; done) | (simp [*]; done) | (simp; exact isEmpty_bne _)), (by first | rfl | (simp; done) | (simp [*]; done) | (simp; exact isEmpty_bne _)), (by first | rfl | (simp; done) | (simp [*]; done) | (simp; exact isEmpty_bne _)), H', ⟨Nat.le_refl _⟩, ⟨by (with_reducible repeat (first | apply Kd.R_alloc | apply Kd.R_drewN | apply Kd.R_drew)); exact HO0.out⟩, ⟨by repeat (first | (with_reducible first | exact HK.out | apply Kept.alloc | apply Kept.drewN | apply Kept.drew) | exact HK.out)⟩, ⟨BL⟩⟩
  case round =>
    clear H'
    try clear c1
    try clear p2
    obtain ⟨x0_1, x9_1, x10_1, x16_1, rfl, rfl, rfl, HA, HK1, HO_0, HK, HB⟩ := hrel
    cases gk with
    | zero => exact absurd HA.out (by simp [nat_take.l0])
    | succ k1 =>
      have H := HA.out
      clear HA
      simp only [nat_take.l0] at H
      by_cases c5 : x16_1 < (l1.length : Int)
      · rw [if_pos c5] at H
        have c5b0 : decide (x16_1 < (l1.length : Int)) = true := decide_eq_true c5
        clear c5
        obtain ⟨c6, H⟩ := ite_p H
        have c6b0 : decide (0 ≤ x16_1) = true := decide_eq_true c6
        clear c6
        obtain ⟨c7, H⟩ := ite_p H
        have c7b0 : decide (x16_1 < (l1.length : Int)) = true := decide_eq_true c7
        clear c7
        obtain ⟨ji8, hji8⟩ := let_j (wrap64 (a2 + x16_1))
        (first | rw [hji8] at H | simp only [hji8] at H ⊢)
        have hji8w : (IntKind.i64.wrap (a2 + x16_1)) = ji8 := (i64_w _).trans hji8
        obtain ⟨c9, H⟩ := ite_p H
        have c9b0 : decide (0 ≤ (ji8)) = true := decide_eq_true c9
        clear c9
        obtain ⟨c10, H⟩ := ite_p H
        have c10b0 : decide ((ji8) < (x0_1.length : Int)) = true := decide_eq_true c10
        clear c10
        obtain ⟨y149, Ny149⟩ := let_p (x0_1.set ((ji8) : Int).toNat ((IntKind.u64.wrap ((IntKind.u64.wrap ((IntKind.u64.wrap (rd x0_1 (ji8))) - ((IntKind.u64.wrap (x9_1 + (IntKind.u64.wrap (a3 * (IntKind.u64.wrap (rd l1 x16_1)))))) % 4294967296))) - x10_1)) % 4294967296) : List Int)
        (first | rw [← Ny149.out] at H | simp only [← Ny149.out] at H)
        have H' := Aside0.mk H
        clear H
        have p147 : 0 ≤ (x16_1 : Int) := DA
        have q147 : x16_1 < (l1.length : Int) := DA
        obtain ⟨ad147, e147, hx147_0⟩ := Kd.at_int (Kd.C_kept_now HR1.out HK.out) x16_1 p147 q147
        cases e147
        replace p147 := eq_true p147
        replace q147 := eq_true q147
        obtain ⟨Ao12, co12, eo12⟩ := Kd.R_slice HO_0.out
        subst eo12
        have p148 : 0 ≤ ((ji8) : Int) := DA
        have q148 : (ji8) < (x0_1.length : Int) := DA
        obtain ⟨ad148, e148, hx148_0⟩ := Kd.at_int (Kd.R_reads' HO_0.out).2.2 (ji8) p148 q148
        cases e148
        replace p148 := eq_true p148
        replace q148 := eq_true q148
        have p11 : 0 ≤ ((ji8) : Int) := DA
        have q11 : ((ji8) : Int) < ((x0_1.length : Int) : Int) := DA
        obtain ⟨go11, co11, eo11, gb11, gl11, cl11, HG11⟩ := Kd.R_form HO_0.out (by omega)
        (first | cases eo11 | (injection eo11 with ea_ en_ ec_; (first | subst ea_ | (injection ea_ with ea_; subst ea_)); subst ec_; clear en_))
        have GB11 := Aside0.mk gb11
        have GG11 := Aside0.mk HG11
        clear gb11 gl11 HG11
        have HMgo11 := Aside0.mk (show (P0_ go11 ∨ w.heap.size ≤ go11) from (HO_0.out.1 _ rfl))
        (first | simp only [add_plain] at hx148_0 | skip)
        obtain ⟨hx11_0, hf11_0⟩ := Kd.R_celln 0 HO_0.out ((ji8) : Int) p11 q11
        replace p11 := eq_true p11
        replace q11 := eq_true q11
        have HP13 := Kd.R_putg HO_0.out ((ji8) : Int) ((IntKind.u64.wrap ((IntKind.u64.wrap ((IntKind.u64.wrap (rd x0_1 (ji8))) - ((IntKind.u64.wrap (x9_1 + (IntKind.u64.wrap (a3 * (IntKind.u64.wrap (rd l1 x16_1)))))) % 4294967296))) - x10_1)) % 4294967296)
        go_wp2_with (first | ((with_reducible refine gate_store (t := 34) (p := 47) rfl ?_); refine store_event (t := 34) (p := 47) (v := ?vo_w14) (w1 := (wr.setCell ⟨go11, ((ji8) : Int).toNat, none⟩ (.int .u32 ((IntKind.u64.wrap ((IntKind.u64.wrap ((IntKind.u64.wrap (rd x0_1 (ji8))) - ((IntKind.u64.wrap (x9_1 + (IntKind.u64.wrap (a3 * (IntKind.u64.wrap (rd l1 x16_1)))))) % 4294967296))) - x10_1)) % 4294967296)))) ?hg ?ho ?hn ?hr ?_; (case ho => rfl); (case hg => rfl); (case hn => rfl); (case hr => first | (go_simp; done) | (go_simp; rfl)); intro w14 hw; have hg : wr.grownBy w14 (some go11) := (by rw [hw]; exact HP13.2); have hp_ : Kd.R (Kd.int .u32) 34 w14 w0.heap.size (fun k_ => (P0_ k_ ∨ w.heap.size ≤ k_)) (.slice (some ⟨go11, 0, none⟩) x0_1.length co12) y149 := (by rw [hw, Ny149.out]; exact HP13.1); clear HP13; have n0_ := Aside0.mk (hp_); have n1_ := Aside0.mk ((by rw [hw]; exact below_set (HB.out) GB11.out : Below w0.heap.size w0 w14)); have n2_ := Aside0.mk (Kept.of_grown (S := (fun k_ => P0_ k_)) hg (by repeat (first | (with_reducible first | exact HK.out | apply Kept.alloc | apply Kept.drewN | apply Kept.drew) | exact HK.out)) (fun k_ e_ => (HO_0.out.1 k_ e_))); clear HO_0; clear HB; clear HK; have HO_0 := n0_; have HB := n1_; have HK := n2_; clear n0_ n1_ n2_; clear hg hw hp_))
        go_roundg k1
        case measure => have := HK1.out; omega
        case rel => exact ⟨(y149), ((IntKind.u64.wrap (x9_1 + (IntKind.u64.wrap (a3 * (IntKind.u64.wrap (rd l1 x16_1)))))) / 4294967296), ((IntKind.u64.wrap ((IntKind.u64.wrap ((IntKind.u64.wrap (rd x0_1 (ji8))) - ((IntKind.u64.wrap (x9_1 + (IntKind.u64.wrap (a3 * (IntKind.u64.wrap (rd l1 x16_1)))))) % 4294967296))) - x10_1)) / 9223372036854775808), (wrap64 (x16_1 + 1)), (by first | rfl | (simp; done) | (simp [*]; done) | (simp; exact isEmpty_bne _)), (by first | rfl | (simp; done) | (simp only [← hji8] <;> (first | rfl | simp)) | (simp [*]; done)), (by first | rfl | (simp; done) | (simp [*]; done) | (simp; exact isEmpty_bne _)), H', ⟨by have := HK1.out; omega⟩, ⟨by (with_reducible repeat (first | apply Kd.R_alloc | apply Kd.R_drewN | apply Kd.R_drew)); exact HO_0.out⟩, ⟨by repeat (first | (with_reducible first | exact HK.out | apply Kept.alloc | apply Kept.drewN | apply Kept.drew) | exact HK.out)⟩, ⟨BL⟩⟩
      · rw [if_neg c5] at H
        have c5b0 : decide (x16_1 < (l1.length : Int)) = false := decide_eq_false c5
        clear c5
        obtain ⟨ji15, hji15⟩ := let_j (wrap64 (a2 + (l1.length : Int)))
        (first | rw [hji15] at H | simp only [hji15] at H ⊢)
        have hji15w : (IntKind.i64.wrap (a2 + (l1.length : Int))) = ji15 := (i64_w _).trans hji15
        obtain ⟨c16, H⟩ := ite_p H
        have c16b0 : decide (0 ≤ (ji15)) = true := decide_eq_true c16
        clear c16
        obtain ⟨c17, H⟩ := ite_p H
        have c17b0 : decide ((ji15) < (x0_1.length : Int)) = true := decide_eq_true c17
        clear c17
        obtain ⟨y151, Ny151⟩ := let_p (x0_1.set ((ji15) : Int).toNat ((IntKind.u64.wrap ((IntKind.u64.wrap ((IntKind.u64.wrap (rd x0_1 (ji15))) - x9_1)) - x10_1)) % 4294967296) : List Int)
        (first | rw [← Ny151.out] at H | simp only [← Ny151.out] at H)
        simp only [Option.some.injEq, Prod.mk.injEq] at H
        obtain ⟨rfl, rfl⟩ := H
        obtain ⟨Ao19, co19, eo19⟩ := Kd.R_slice HO_0.out
        subst eo19
        have p150 : 0 ≤ ((ji15) : Int) := DA
        have q150 : (ji15) < (x0_1.length : Int) := DA
        obtain ⟨ad150, e150, hx150_0⟩ := Kd.at_int (Kd.R_reads' HO_0.out).2.2 (ji15) p150 q150
        cases e150
        replace p150 := eq_true p150
        replace q150 := eq_true q150
        have p18 : 0 ≤ ((ji15) : Int) := DA
        have q18 : ((ji15) : Int) < ((x0_1.length : Int) : Int) := DA
        obtain ⟨go18, co18, eo18, gb18, gl18, cl18, HG18⟩ := Kd.R_form HO_0.out (by omega)
        (first | cases eo18 | (injection eo18 with ea_ en_ ec_; (first | subst ea_ | (injection ea_ with ea_; subst ea_)); subst ec_; clear en_))
        have GB18 := Aside0.mk gb18
        have GG18 := Aside0.mk HG18
        clear gb18 gl18 HG18
        have HMgo18 := Aside0.mk (show (P0_ go18 ∨ w.heap.size ≤ go18) from (HO_0.out.1 _ rfl))
        (first | simp only [add_plain] at hx150_0 | skip)
        obtain ⟨hx18_0, hf18_0⟩ := Kd.R_celln 0 HO_0.out ((ji15) : Int) p18 q18
        replace p18 := eq_true p18
        replace q18 := eq_true q18
        have HP20 := Kd.R_putg HO_0.out ((ji15) : Int) ((IntKind.u64.wrap ((IntKind.u64.wrap ((IntKind.u64.wrap (rd x0_1 (ji15))) - x9_1)) - x10_1)) % 4294967296)
        go_wp2_with (first | ((with_reducible refine gate_store (t := 34) (p := 72) rfl ?_); refine store_event (t := 34) (p := 72) (v := ?vo_w21) (w1 := (wr.setCell ⟨go18, ((ji15) : Int).toNat, none⟩ (.int .u32 ((IntKind.u64.wrap ((IntKind.u64.wrap ((IntKind.u64.wrap (rd x0_1 (ji15))) - x9_1)) - x10_1)) % 4294967296)))) ?hg ?ho ?hn ?hr ?_; (case ho => rfl); (case hg => rfl); (case hn => rfl); (case hr => first | (go_simp; done) | (go_simp; rfl)); intro w21 hw; have hg : wr.grownBy w21 (some go18) := (by rw [hw]; exact HP20.2); have hp_ : Kd.R (Kd.int .u32) 34 w21 w0.heap.size (fun k_ => (P0_ k_ ∨ w.heap.size ≤ k_)) (.slice (some ⟨go18, 0, none⟩) x0_1.length co19) y151 := (by rw [hw, Ny151.out]; exact HP20.1); clear HP20; have n0_ := Aside0.mk (hp_); have n1_ := Aside0.mk ((by rw [hw]; exact below_set (HB.out) GB18.out : Below w0.heap.size w0 w21)); have n2_ := Aside0.mk (Kept.of_grown (S := (fun k_ => P0_ k_)) hg (by repeat (first | (with_reducible first | exact HK.out | apply Kept.alloc | apply Kept.drewN | apply Kept.drew) | exact HK.out)) (fun k_ e_ => (HO_0.out.1 k_ e_))); clear HO_0; clear HB; clear HK; have HO_0 := n0_; have HB := n1_; have HK := n2_; clear n0_ n1_ n2_; clear hg hw hp_))
        go_ret
        exact ⟨by first | rfl | (simp [errW_none, errW_some] <;> rfl) | (simp only [← hji15]; first | rfl | (simp [errW_none, errW_some] <;> rfl)) | (simp [*, errW_none, errW_some] <;> rfl), by (with_reducible repeat (first | apply Kd.R_alloc | apply Kd.R_drewN | apply Kd.R_drew)); exact HO_0.out, by repeat (first | (with_reducible first | exact HB.out | apply below_alloc | apply pw_below_drewN | apply below_drew1) | exact HB.out), by repeat (first | (with_reducible first | exact HK.out | apply Kept.alloc | apply Kept.drewN | apply Kept.drew) | exact HK.out)⟩

end Go.Proofs.YtecbbenfcepohaaDoor.K
