-- Printed by this session's own program out of the translation.
import Derived.Test.YtecbbenfcepohaaDoorKx0
import Derived.Test.YtecbbenfcepohaaDoorKx1
import Derived.Test.YtecbbenfcepohaaDoorKx2
namespace Go.Proofs.YtecbbenfcepohaaDoor.K
open Go.RowKit Go.Proofs.YtecbbenfcepohaaDoorW.PrintWords Go.Proofs.YtecbbenfcepohaaDoorW.PrintLast Go.Proofs.YtecbbenfcepohaaDoorW.PrintMore
attribute [local go_sem] max2_int min2_int max_two min_two max_three min_three max_four min_four   -- for this text's walks alone
set_option linter.unusedVariables false
set_option linter.unusedSimpArgs false

/-! ### nat_times: function 72 -/
set_option maxHeartbeats 8000000 in
set_option maxRecDepth 100000 in
theorem nat_times.calls (k : Nat) (A0 : Option Addr) (c0 : Nat) (l0 : List Int) (A1 : Option Addr) (c1 : Nat) (l1 : List Int) (r : List Int) (w : World) (hr0 : Kd.C (Kd.int .u32) w A0 l0.length l0) (hc0 : l0.length ≤ c0) (hr1 : Kd.C (Kd.int .u32) w A1 l1.length l1) (hc1 : l1.length ≤ c1) (h : nat_times.f k l0 l1 = some r) :
    Calls Tryd.prog 72 #[.slice A0 l0.length c0, .slice A1 l1.length c1] w fun e w' => ∃ v0_ : Value, e = .returned (v0_) ∧ Kd.R (Kd.int .u32) 34 w' w.heap.size (fun _ => True) v0_ r ∧ Below w.heap.size w w' := by
  have HR0 := Aside0.mk hr0
  have HC0 := Aside0.mk hc0
  clear hr0 hc0
  have HR1 := Aside0.mk hr1
  have HC1 := Aside0.mk hc1
  clear hr1 hc1
  have HB := Aside0.mk (Below.refl w.heap.size w)
  have H : (if 0 ≤ (wrap64 ((l0.length : Int) + (l1.length : Int))) then (if (wrap64 ((l0.length : Int) + (l1.length : Int)) : Int).toNat ≤ 70368744177664 then (nat_times.l0 k l1 (List.replicate (wrap64 ((l0.length : Int) + (l1.length : Int)) : Int).toNat 0) l0 (l0.length : Int) 0) else (none)) else (none)) = some r := h
  clear h
  obtain ⟨ji3, hji3⟩ := let_j (wrap64 ((l0.length : Int) + (l1.length : Int)))
  (first | rw [hji3] at H | simp only [hji3] at H ⊢)
  have hji3w : (IntKind.i64.wrap ((l0.length : Int) + (l1.length : Int))) = ji3 := (i64_w _).trans hji3
  obtain ⟨c4, H⟩ := ite_p H
  have c4b0 := eq_true c4
  have c4b1 : decide (0 ≤ (ji3)) = true := decide_eq_true c4
  clear c4
  obtain ⟨c5, H⟩ := ite_p H
  have c5b0 := eq_true c5
  have c5b1 : decide ((ji3 : Int).toNat ≤ 70368744177664) = true := decide_eq_true c5
  clear c5
  obtain ⟨y233, Ny233⟩ := let_p (List.replicate (ji3 : Int).toNat 0 : List Int)
  (first | rw [← Ny233.out] at H | simp only [← Ny233.out] at H)
  have H' := Aside0.mk H
  clear H
  go_enter Tryd.func72, Tryd.ntmps72
  go_wp2_with (first | ((with_reducible refine gate_dst (N := 16) rfl ?_); refine Kd.R_make (Kd.int .u32) _ 34 rfl (N := 16) rfl 22 _ _ rfl ji3 rfl rfl Tryd.underlying22 (.int .u32 0) 4 info34 rfl (by decide) (by omega) 0 (ok := fun _ => True) (okp := fun _ => True) rfl (fun _ hk => hk) trivial (DA) (Nat.le_trans (Nat.mul_le_mul_right _ (DA : ji3.toNat ≤ 70368744177664)) (by omega)) (Below.refl _ _) (Nat.le_refl _) ?_; intro v234 w6 ho7 hb hg_ hnew_; clear hg_ hnew_; (first | rw [← Ny233.out] at ho7 | (simp only [Int.reduceToNat] at ho7; rw [← Ny233.out] at ho7)); have n0_ := Aside0.mk (Kd.R_lower ho7 (below_size BL)); have n1_ := Aside0.mk (below_step BL hb); clear HB; have HO235 := n0_; have HB := n1_; clear n0_ n1_; clear hb ho7))
  go_loopg [19] k (fun kq v19 w' => ∃ (x5_1 : List Int) (x19_1 : Int), v19 = .int .i64 x19_1 ∧ Aside0 (nat_times.l0 kq l1 x5_1 l0 (l0.length : Int) x19_1 = some r) ∧ Aside0 (kq ≤ k) ∧ Aside0 (Kd.R (Kd.int .u32) 34 w' w.heap.size (fun _ => True) v234 x5_1) ∧ Aside0 (Below w.heap.size w w'))
  case atStart => exact ⟨(y233), (0), (by first | rfl | (simp; done) | (simp [*]; done) | (simp; exact isEmpty_bne _)), H', ⟨Nat.le_refl _⟩, ⟨by (with_reducible repeat (first | apply Kd.R_alloc | apply Kd.R_drewN | apply Kd.R_drew)); exact HO235.out⟩, ⟨BL⟩⟩
  case round =>
    clear H'
    try clear c1
    try clear p2
    try clear c4
    try clear c4b0
    try clear c4b1
    try clear c5
    try clear c5b0
    try clear c5b1
    try clear p6
    try clear c7
    obtain ⟨x5_1, x19_1, rfl, HA, HK1, HO_5, HB⟩ := hrel
    cases gk with
    | zero => exact absurd HA.out (by simp [nat_times.l0])
    | succ k1 =>
      have H := HA.out
      clear HA
      simp only [nat_times.l0] at H
      by_cases c8 : x19_1 < (l0.length : Int)
      · rw [if_pos c8] at H
        have c8b0 : decide (x19_1 < (l0.length : Int)) = true := decide_eq_true c8
        clear c8
        obtain ⟨c9, H⟩ := ite_p H
        have c9b0 : decide (0 ≤ x19_1) = true := decide_eq_true c9
        clear c9
        obtain ⟨c10, H⟩ := ite_p H
        have c10b0 : decide (x19_1 < (l0.length : Int)) = true := decide_eq_true c10
        clear c10
        have H' := Aside0.mk H
        clear H
        have p239 : 0 ≤ (x19_1 : Int) := DA
        have q239 : x19_1 < (l0.length : Int) := DA
        obtain ⟨ad239, e239, hx239_0⟩ := Kd.at_int HR0.out x19_1 p239 q239
        cases e239
        replace hx239_0 := (HB.out.cell (World.block_lt_of_cell? w _ hx239_0)).trans hx239_0
        replace p239 := eq_true p239
        replace q239 := eq_true q239
        go_wp2
        go_loopg [8, 26] k1 (fun kq v8 v26 w' => ∃ (x5_2 : List Int) (x8_2 : Int) (x26_2 : Int), v8 = .int .u64 x8_2 ∧ v26 = .int .i64 x26_2 ∧ Aside0 (nat_times.l1 kq l1 x5_2 x19_1 (rd l0 x19_1) x8_2 l0 (l0.length : Int) x19_1 l1 (l1.length : Int) x26_2 = some r) ∧ Aside0 (kq ≤ k1) ∧ Aside0 (Kd.R (Kd.int .u32) 34 w' w.heap.size (fun _ => True) v234 x5_2) ∧ Aside0 (Below w.heap.size w w'))
        case atStart => exact ⟨(x5_1), (0), (0), (by first | rfl | (simp; done) | (simp [*]; done) | (simp; exact isEmpty_bne _)), (by first | rfl | (simp; done) | (simp [*]; done) | (simp; exact isEmpty_bne _)), H', ⟨Nat.le_refl _⟩, ⟨by (with_reducible repeat (first | apply Kd.R_alloc | apply Kd.R_drewN | apply Kd.R_drew)); exact HO_5.out⟩, ⟨BL⟩⟩
        case round =>
          clear H'
          try clear c1
          try clear p2
          try clear q2
          try clear hx2
          try clear c4
          try clear c4b0
          try clear c4b1
          try clear c5
          try clear c5b0
          try clear c5b1
          try clear p6
          try clear c7
          try clear c8
          try clear c8b0
          try clear c9
          try clear c9b0
          try clear c10
          try clear c10b0
          try clear hx239_0
          try clear p2
          try clear p239
          try clear p6
          try clear q239
          obtain ⟨x5_2, x8_2, x26_2, rfl, rfl, HA, HK2, HO_5, HB⟩ := hrel
          cases gk with
          | zero => exact absurd HA.out (by simp [nat_times.l1])
          | succ k2 =>
            have H := HA.out
            clear HA
            simp only [nat_times.l1] at H
            by_cases c11 : x26_2 < (l1.length : Int)
            · rw [if_pos c11] at H
              have c11b0 : decide (x26_2 < (l1.length : Int)) = true := decide_eq_true c11
              clear c11
              obtain ⟨c12, H⟩ := ite_p H
              have c12b0 : decide (0 ≤ x26_2) = true := decide_eq_true c12
              clear c12
              obtain ⟨c13, H⟩ := ite_p H
              have c13b0 : decide (x26_2 < (l1.length : Int)) = true := decide_eq_true c13
              clear c13
              obtain ⟨ji14, hji14⟩ := let_j (wrap64 (x19_1 + x26_2))
              (first | rw [hji14] at H | simp only [hji14] at H ⊢)
              have hji14w : (IntKind.i64.wrap (x19_1 + x26_2)) = ji14 := (i64_w _).trans hji14
              obtain ⟨c15, H⟩ := ite_p H
              have c15b0 : decide (0 ≤ (ji14)) = true := decide_eq_true c15
              clear c15
              obtain ⟨c16, H⟩ := ite_p H
              have c16b0 : decide ((ji14) < (x5_2.length : Int)) = true := decide_eq_true c16
              clear c16
              obtain ⟨y242, Ny242⟩ := let_p (x5_2.set ((ji14) : Int).toNat ((IntKind.u64.wrap (x8_2 + (IntKind.u64.wrap ((IntKind.u64.wrap ((IntKind.u64.wrap ((rd l0 x19_1))) * (IntKind.u64.wrap (rd l1 x26_2)))) + (IntKind.u64.wrap (rd x5_2 (ji14))))))) % 4294967296) : List Int)
              (first | rw [← Ny242.out] at H | simp only [← Ny242.out] at H)
              have H' := Aside0.mk H
              clear H
              have p240 : 0 ≤ (x26_2 : Int) := DA
              have q240 : x26_2 < (l1.length : Int) := DA
              obtain ⟨ad240, e240, hx240_0⟩ := Kd.at_int HR1.out x26_2 p240 q240
              cases e240
              replace hx240_0 := (HB.out.cell (World.block_lt_of_cell? w _ hx240_0)).trans hx240_0
              replace p240 := eq_true p240
              replace q240 := eq_true q240
              obtain ⟨Ao18, co18, eo18⟩ := Kd.R_slice HO_5.out
              subst eo18
              have p241 : 0 ≤ ((ji14) : Int) := DA
              have q241 : (ji14) < (x5_2.length : Int) := DA
              obtain ⟨ad241, e241, hx241_0⟩ := Kd.at_int (Kd.R_reads' HO_5.out).2.2 (ji14) p241 q241
              cases e241
              replace p241 := eq_true p241
              replace q241 := eq_true q241
              have p17 : 0 ≤ ((ji14) : Int) := DA
              have q17 : ((ji14) : Int) < ((x5_2.length : Int) : Int) := DA
              obtain ⟨go17, co17, eo17, gb17, gl17, cl17, HG17⟩ := Kd.R_form HO_5.out (by omega)
              (first | cases eo17 | (injection eo17 with ea_ en_ ec_; (first | subst ea_ | (injection ea_ with ea_; subst ea_)); subst ec_; clear en_))
              have GB17 := Aside0.mk gb17
              have GG17 := Aside0.mk HG17
              clear gb17 gl17 HG17
              (first | simp only [add_plain] at hx241_0 | skip)
              obtain ⟨hx17_0, hf17_0⟩ := Kd.R_celln 0 HO_5.out ((ji14) : Int) p17 q17
              replace p17 := eq_true p17
              replace q17 := eq_true q17
              have HP19 := Kd.R_putg HO_5.out ((ji14) : Int) ((IntKind.u64.wrap (x8_2 + (IntKind.u64.wrap ((IntKind.u64.wrap ((IntKind.u64.wrap ((rd l0 x19_1))) * (IntKind.u64.wrap (rd l1 x26_2)))) + (IntKind.u64.wrap (rd x5_2 (ji14))))))) % 4294967296)
              go_wp2_with (first | ((with_reducible refine gate_store (t := 34) (p := 52) rfl ?_); refine store_event (t := 34) (p := 52) (v := ?vo_w20) (w1 := (wr.setCell ⟨go17, ((ji14) : Int).toNat, none⟩ (.int .u32 ((IntKind.u64.wrap (x8_2 + (IntKind.u64.wrap ((IntKind.u64.wrap ((IntKind.u64.wrap ((rd l0 x19_1))) * (IntKind.u64.wrap (rd l1 x26_2)))) + (IntKind.u64.wrap (rd x5_2 (ji14))))))) % 4294967296)))) ?hg ?ho ?hn ?hr ?_; (case ho => rfl); (case hg => rfl); (case hn => rfl); (case hr => first | (go_simp; done) | (go_simp; rfl)); intro w20 hw; have hg : wr.grownBy w20 (some go17) := (by rw [hw]; exact HP19.2); have hp_ : Kd.R (Kd.int .u32) 34 w20 w.heap.size (fun _ => True) (.slice (some ⟨go17, 0, none⟩) x5_2.length co18) y242 := (by rw [hw, Ny242.out]; exact HP19.1); clear HP19; have n0_ := Aside0.mk (hp_); have n1_ := Aside0.mk ((by rw [hw]; exact below_set (HB.out) GB17.out : Below w.heap.size w w20)); clear HO_5; clear HB; have HO_5 := n0_; have HB := n1_; clear n0_ n1_; clear hg hw hp_))
              go_roundg k2
              case measure => have := HK1.out; have := HK2.out; omega
              case rel => exact ⟨(y242), ((IntKind.u64.wrap (x8_2 + (IntKind.u64.wrap ((IntKind.u64.wrap ((IntKind.u64.wrap ((rd l0 x19_1))) * (IntKind.u64.wrap (rd l1 x26_2)))) + (IntKind.u64.wrap (rd x5_2 (ji14))))))) / 4294967296), (wrap64 (x26_2 + 1)), (by first | rfl | (simp; done) | (simp only [← hji14] <;> (first | rfl | simp)) | (simp [*]; done)), (by first | rfl | (simp; done) | (simp [*]; done) | (simp; exact isEmpty_bne _)), H', ⟨by have := HK1.out; have := HK2.out; omega⟩, ⟨by (with_reducible repeat (first | apply Kd.R_alloc | apply Kd.R_drewN | apply Kd.R_drew)); exact HO_5.out⟩, ⟨BL⟩⟩
            · rw [if_neg c11] at H
              have c11b0 : decide (x26_2 < (l1.length : Int)) = false := decide_eq_false c11
              clear c11
              obtain ⟨ji21, hji21⟩ := let_j (wrap64 (x19_1 + (l1.length : Int)))
              (first | rw [hji21] at H | simp only [hji21] at H ⊢)
              have hji21w : (IntKind.i64.wrap (x19_1 + (l1.length : Int))) = ji21 := (i64_w _).trans hji21
              obtain ⟨c22, H⟩ := ite_p H
              have c22b0 : decide (0 ≤ (ji21)) = true := decide_eq_true c22
              clear c22
              obtain ⟨c23, H⟩ := ite_p H
              have c23b0 : decide ((ji21) < (x5_2.length : Int)) = true := decide_eq_true c23
              clear c23
              obtain ⟨y243, Ny243⟩ := let_p (x5_2.set ((ji21) : Int).toNat ((x8_2) % 4294967296) : List Int)
              (first | rw [← Ny243.out] at H | simp only [← Ny243.out] at H)
              have H' := Aside0.mk H
              clear H
              have p24 : 0 ≤ ((ji21) : Int) := DA
              have q24 : ((ji21) : Int) < ((x5_2.length : Int) : Int) := DA
              obtain ⟨go24, co24, eo24, gb24, gl24, cl24, HG24⟩ := Kd.R_form HO_5.out (by omega)
              (first | cases eo24 | (injection eo24 with ea_ en_ ec_; (first | subst ea_ | (injection ea_ with ea_; subst ea_)); subst ec_; clear en_))
              have GB24 := Aside0.mk gb24
              have GG24 := Aside0.mk HG24
              clear gb24 gl24 HG24
              obtain ⟨hx24_0, hf24_0⟩ := Kd.R_celln 0 HO_5.out ((ji21) : Int) p24 q24
              replace p24 := eq_true p24
              replace q24 := eq_true q24
              have HP25 := Kd.R_putg HO_5.out ((ji21) : Int) ((x8_2) % 4294967296)
              go_wp2_with (first | ((with_reducible refine gate_store (t := 34) (p := 63) rfl ?_); refine store_event (t := 34) (p := 63) (v := ?vo_w26) (w1 := (wr.setCell ⟨go24, ((ji21) : Int).toNat, none⟩ (.int .u32 ((x8_2) % 4294967296)))) ?hg ?ho ?hn ?hr ?_; (case ho => rfl); (case hg => rfl); (case hn => rfl); (case hr => first | (go_simp; done) | (go_simp; rfl)); intro w26 hw; have hg : wr.grownBy w26 (some go24) := (by rw [hw]; exact HP25.2); have hp_ : Kd.R (Kd.int .u32) 34 w26 w.heap.size (fun _ => True) (.slice (some ⟨go24, 0, none⟩) x5_2.length co24) y243 := (by rw [hw, Ny243.out]; exact HP25.1); clear HP25; have n0_ := Aside0.mk (hp_); have n1_ := Aside0.mk ((by rw [hw]; exact below_set (HB.out) GB24.out : Below w.heap.size w w26)); clear HO_5; clear HB; have HO_5 := n0_; have HB := n1_; clear n0_ n1_; clear hg hw hp_))
              go_roundg k2
              case measure => have := HK1.out; have := HK2.out; omega
              case rel => exact ⟨(y243), (wrap64 (x19_1 + 1)), (by first | rfl | (simp; done) | (simp [*]; done) | (simp; exact isEmpty_bne _)), H', ⟨by have := HK1.out; have := HK2.out; omega⟩, ⟨by (with_reducible repeat (first | apply Kd.R_alloc | apply Kd.R_drewN | apply Kd.R_drew)); exact HO_5.out⟩, ⟨BL⟩⟩
      · rw [if_neg c8] at H
        have c8b0 : decide (x19_1 < (l0.length : Int)) = false := decide_eq_false c8
        clear c8
        obtain ⟨t236, A27, H⟩ := bind_p H
        obtain rfl := Option.some.inj H
        obtain ⟨Ao28, co28, eo28⟩ := Kd.R_slice HO_5.out
        subst eo28
        go_wp2_with (first | ((with_reducible refine gate_callee (f := 56) rfl ?_); refine goesL_ (some 66) rfl rfl Tryd.func56 (by kernel_rfl) rfl #[.slice Ao28 x5_1.length co28] rfl EQ ?_; (with_reducible refine (nat_trim.calls k1 (fun k_ => some k_ = (.slice Ao28 x5_1.length co28 : Value).ownBlock) (.slice Ao28 x5_1.length co28) x5_1 t236 w _ ?side1 ?side2 A27.out).mono ?_); (case side1 => repeat (first | (with_reducible first | exact HB.out | apply below_alloc | apply pw_below_drewN | apply below_drew1) | exact HB.out)); (case side2 => exact Kd.R_tight rfl HO_5.out); rintro e w29 ⟨v237, rfl, ho0, hb, hkp⟩; refine ⟨_, rfl, ?_⟩; have n0_ := Aside0.mk (Kd.R_mono (ok' := fun k_ => True) ho0 (fun k_ hk_ => trivial)); have n1_ := Aside0.mk (hb); clear HB; clear HO_5; have HO238 := n0_; have HB := n1_; clear n0_ n1_; (try clear hb); (try clear hkp); (try clear ho0)))
        go_ret
        exact ⟨_, by first | rfl | (simp [errW_none, errW_some] <;> rfl) | (simp only [← hji3]; first | rfl | (simp [errW_none, errW_some] <;> rfl)) | (simp [*, errW_none, errW_some] <;> rfl), by (with_reducible repeat (first | apply Kd.R_alloc | apply Kd.R_drewN | apply Kd.R_drew)); exact HO238.out, BL⟩

/-! ### nat_Mul: function 64 -/
set_option maxHeartbeats 8000000 in
set_option maxRecDepth 100000 in
theorem nat_Mul.calls (k : Nat) (A0 : Option Addr) (c0 : Nat) (l0 : List Int) (A1 : Option Addr) (c1 : Nat) (l1 : List Int) (r1 : List Int) (r2 : Int) (w : World) (hr0 : Kd.C (Kd.int .u32) w A0 l0.length l0) (hc0 : l0.length ≤ c0) (hr1 : Kd.C (Kd.int .u32) w A1 l1.length l1) (hc1 : l1.length ≤ c1) (h : nat_Mul.f k l0 l1 = some (r1, r2)) :
    Calls Tryd.prog 64 #[.slice A0 l0.length c0, .slice A1 l1.length c1] w fun e w' => ∃ v0_ : Value, e = .returned (.tuple #[v0_, .int .i64 r2]) ∧ Kd.R (Kd.int .u32) 34 w' w.heap.size (fun _ => True) v0_ r1 ∧ Below w.heap.size w w' := by
  have HR0 := Aside0.mk hr0
  have HC0 := Aside0.mk hc0
  clear hr0 hc0
  have HR1 := Aside0.mk hr1
  have HC1 := Aside0.mk hc1
  clear hr1 hc1
  have HB := Aside0.mk (Below.refl w.heap.size w)
  have H : ((nat_Right.f l0).bind fun t244 => (if t244 = true then ((nat_Right.f l1).bind fun t245 => (nat_Mul.j0 k l0 l1 (!t245))) else (nat_Mul.j0 k l0 l1 true))) = some (r1, r2) := h
  clear h
  have HC3 := Aside0.mk H
  clear H
  go_enter Tryd.func64, Tryd.ntmps64
  go_upto_region 1 with (fail)
  go_cut [13] (fun v13 wc => ∃ (kq : Nat) (x13_2 : Bool), v13 = .bool x13_2 ∧ Aside0 (nat_Mul.j0 kq l0 l1 x13_2 = some (r1, r2)) ∧ Aside0 (kq ≤ k) ∧ Aside0 (Below w.heap.size w wc))
  case first =>
    have H := HC3.out
    clear HC3
    obtain ⟨t244, A4, H⟩ := bind_p H
    by_cases c5 : t244 = true
    · subst c5
      have H1 : ((nat_Right.f l1).bind fun t245 => (nat_Mul.j0 k l0 l1 (!t245))) = some (r1, r2) := by rw [if_pos rfl] at H; exact H
      clear H
      have H := H1
      clear H1
      obtain ⟨t245, A6, H⟩ := bind_p H
      have H' := Aside0.mk H
      clear H
      go_wp2_with (first | ((with_reducible refine gate_callee (f := 33) rfl ?_); refine goesL_ (some 7) rfl rfl Tryd.func33 (by kernel_rfl) rfl #[.slice A0 l0.length c0] rfl EQ ?_; (with_reducible refine (nat_Right.calls _ _ l0 true _ ?side1 ?side2 A4.out).mono ?_); (case side1 => exact CB HR0); (case side2 => exact HC0.out); rintro e w' ⟨rfl, ⟨nd, rfl⟩⟩; refine ⟨_, rfl, ?_⟩) | (go_at_call 33; (with_reducible refine (nat_Right.calls _ _ l1 t245 _ ?side1 ?side2 A6.out).mono ?_); (case side1 => repeat (first | exact (Kd.C_below HR1.out BL) | (with_reducible refine Kd.C_alloc ?_ _) | (with_reducible refine Kd.C_drewN ?_ _) | (with_reducible refine Kd.C_drew ?_))); (case side2 => exact HC1.out); rintro e w' ⟨rfl, ⟨nd, rfl⟩⟩))
      go_meet
      case rel => exact ⟨_, (!t245), (by first | rfl | (simp; done) | (simp [*]; done) | (simp; exact isEmpty_bne _)), H', ⟨by first | omega | exact Nat.le_refl _⟩, ⟨BL⟩⟩
    · replace c5 := Bool.eq_false_iff.mpr c5
      subst c5
      have H1 : (nat_Mul.j0 k l0 l1 true) = some (r1, r2) := by rw [if_neg (show ¬ (false = true) by decide)] at H; exact H
      clear H
      have H := H1
      clear H1
      have H' := Aside0.mk H
      clear H
      go_wp2_with (first | ((with_reducible refine gate_callee (f := 33) rfl ?_); refine goesL_ (some 7) rfl rfl Tryd.func33 (by kernel_rfl) rfl #[.slice A0 l0.length c0] rfl EQ ?_; (with_reducible refine (nat_Right.calls _ _ l0 false _ ?side1 ?side2 A4.out).mono ?_); (case side1 => exact CB HR0); (case side2 => exact HC0.out); rintro e w' ⟨rfl, ⟨nd, rfl⟩⟩; refine ⟨_, rfl, ?_⟩))
      go_meet
      case rel => exact ⟨_, (true), (by first | rfl | (simp; done) | (simp [*]; done) | (simp; exact isEmpty_bne _)), H', ⟨by first | omega | exact Nat.le_refl _⟩, ⟨BL⟩⟩
  case rest =>
    clear HC3
    try clear c1
    try clear p2
    try clear c3
    try clear c5
    try clear c6
    obtain ⟨kq, x13_2, rfl, HA, HJ2, HB⟩ := hcut
    cases kq with
    | zero => exact absurd HA.out (by simp [nat_Mul.j0])
    | succ kj2 =>
      have H := HA.out
      clear HA
      simp only [nat_Mul.j0] at H
      by_cases c7 : x13_2 = true
      · subst c7
        have H1 : (some (([] : List Int), 1)) = some (r1, r2) := by rw [if_pos rfl] at H; exact H
        clear H
        have H := H1
        clear H1
        simp only [Option.some.injEq, Prod.mk.injEq] at H
        obtain ⟨rfl, rfl⟩ := H
        go_wp2
        go_ret2
        exact ⟨_, by first | rfl | (simp [errW_none, errW_some] <;> rfl) | (simp [*, errW_none, errW_some] <;> rfl), by first | exact Kd.R_nil _ _ _ _ _ | exact Kd.N_nil _ _ _ _ _ | exact Kd.V_nil _ _ _ _ _ | exact Kd.Q_nil _ _ _ _ _ | exact Kd.S_nil _ _ _ _ _, BL⟩
      · replace c7 := Bool.eq_false_iff.mpr c7
        subst c7
        have H1 : ((nat_times.f kj2 l0 l1).bind fun t246 => ((nat_kept.f t246).bind fun bt249 => (some (bt249.1, bt249.2)))) = some (r1, r2) := by rw [if_neg (show ¬ (false = true) by decide)] at H; exact H
        clear H
        have H := H1
        clear H1
        obtain ⟨t246, A8, H⟩ := bind_p H
        obtain ⟨⟨t249, t252⟩, A9, H⟩ := bind_p H
        dsimp only at H
        simp only [Option.some.injEq, Prod.mk.injEq] at H
        obtain ⟨rfl, rfl⟩ := H
        go_wp2_with (first | ((with_reducible refine gate_callee (f := 72) rfl ?_); refine goesL_ (some 16) rfl rfl Tryd.func72 (by kernel_rfl) rfl #[.slice A0 l0.length c0, .slice A1 l1.length c1] rfl EQ ?_; (with_reducible refine (nat_times.calls kj2 _ _ l0 _ _ l1 t246 _ ?side1 ?side2 ?side3 ?side4 A8.out).mono ?_); (case side1 => exact CB HR0); (case side2 => exact HC0.out); (case side3 => exact CB HR1); (case side4 => exact HC1.out); rintro e w10 ⟨v247, rfl, ho0, hb⟩; refine ⟨_, rfl, ?_⟩; have n0_ := Aside0.mk (Kd.R_lower ho0 (below_size BL)); have n1_ := Aside0.mk (below_step BL hb); clear HB; have HO248 := n0_; have HB := n1_; clear n0_ n1_; (try clear hb); (try clear hb2); (try clear hk); (try clear hi); (try clear ho0); obtain ⟨Ao11, co11, eo11⟩ := Kd.R_slice HO248.out; subst eo11) | ((with_reducible refine gate_callee (f := 66) rfl ?_); refine goesL_ (some 17) rfl rfl Tryd.func66 (by kernel_rfl) rfl #[.slice Ao11 t246.length co11] rfl EQ ?_; (with_reducible refine (nat_kept.calls (fun k_ => some k_ = (.slice Ao11 t246.length co11 : Value).ownBlock) (.slice Ao11 t246.length co11) t246 t249 t252 w _ ?side1 ?side2 A9.out).mono ?_); (case side1 => repeat (first | (with_reducible first | exact HB.out | apply below_alloc | apply pw_below_drewN | apply below_drew1) | exact HB.out)); (case side2 => exact Kd.R_tight rfl HO248.out); rintro e w12 ⟨v250, rfl, ho0, hb, hkp⟩; refine ⟨_, rfl, ?_⟩; have n0_ := Aside0.mk (Kd.R_mono (ok' := fun k_ => True) ho0 (fun k_ hk_ => trivial)); have n1_ := Aside0.mk (hb); clear HB; clear HO248; have HO251 := n0_; have HB := n1_; clear n0_ n1_; (try clear hb); (try clear hkp); (try clear ho0)))
        go_ret2
        exact ⟨_, by first | rfl | (simp [errW_none, errW_some] <;> rfl) | (simp [*, errW_none, errW_some] <;> rfl), by (with_reducible repeat (first | apply Kd.R_alloc | apply Kd.R_drewN | apply Kd.R_drew)); exact HO251.out, BL⟩

/-! ### nat_sum: function 67 -/
set_option maxHeartbeats 8000000 in
set_option maxRecDepth 100000 in
theorem nat_sum.calls (k : Nat) (A0 : Option Addr) (c0 : Nat) (l0 : List Int) (A1 : Option Addr) (c1 : Nat) (l1 : List Int) (r : List Int) (w : World) (hr0 : Kd.C (Kd.int .u32) w A0 l0.length l0) (hc0 : l0.length ≤ c0) (hr1 : Kd.C (Kd.int .u32) w A1 l1.length l1) (hc1 : l1.length ≤ c1) (h : nat_sum.f k l0 l1 = some r) :
    Calls Tryd.prog 67 #[.slice A0 l0.length c0, .slice A1 l1.length c1] w fun e w' => ∃ v0_ : Value, e = .returned (v0_) ∧ Kd.R (Kd.int .u32) 34 w' w.heap.size (fun _ => True) v0_ r ∧ Below w.heap.size w w' := by
  have HR0 := Aside0.mk hr0
  have HC0 := Aside0.mk hc0
  clear hr0 hc0
  have HR1 := Aside0.mk hr1
  have HC1 := Aside0.mk hc1
  clear hr1 hc1
  have HB := Aside0.mk (Below.refl w.heap.size w)
  have H : (if 0 ≤ (wrap64 ((mx (l0.length : Int) (l1.length : Int)) + 1)) then (if (wrap64 ((mx (l0.length : Int) (l1.length : Int)) + 1) : Int).toNat ≤ 70368744177664 then ((some (List.replicate (wrap64 ((mx (l0.length : Int) (l1.length : Int)) + 1) : Int).toNat 0 : List Int)).bind fun y253 => (nat_sum.l0 k l0 l1 y253 0 (y253.length : Int) 0)) else (none)) else (none)) = some r := h
  clear h
  obtain ⟨ji3, hji3⟩ := let_j (mx (l0.length : Int) (l1.length : Int))
  (first | rw [hji3] at H | simp only [hji3] at H ⊢)
  (try (have hji3l : 0 ≤ ji3 := by (rw [← hji3]; unfold mx; (repeat' split) <;> omega)))
  (try (have hji3m : 0 ≤ ji3 := by omega))
  (try (have hji3N_ : (if l0.length < l1.length then (l1.length : Int) else (l0.length : Int)) = ji3 := by (have h_ := hji3; unfold mx at h_; split at h_ <;> split <;> omega)))
  have hji3_ : (if (l0.length : Int) < (l1.length : Int) then (l1.length : Int) else (l0.length : Int)) = ji3 := hji3
  obtain ⟨ji4, hji4⟩ := let_j (wrap64 ((ji3) + 1))
  (first | rw [hji4] at H | simp only [hji4] at H ⊢)
  have hji4w : (IntKind.i64.wrap ((ji3) + 1)) = ji4 := (i64_w _).trans hji4
  obtain ⟨c5, H⟩ := ite_p H
  have c5b0 := eq_true c5
  have c5b1 : decide (0 ≤ (ji4)) = true := decide_eq_true c5
  clear c5
  obtain ⟨c6, H⟩ := ite_p H
  have c6b0 := eq_true c6
  have c6b1 : decide ((ji4 : Int).toNat ≤ 70368744177664) = true := decide_eq_true c6
  clear c6
  obtain ⟨y253, Ny253, H⟩ := some_p H
  have H' := Aside0.mk H
  clear H
  go_enter Tryd.func67, Tryd.ntmps67
  go_wp2_with (first | ((with_reducible refine gate_dst (N := 14) rfl ?_); refine Kd.R_make (Kd.int .u32) _ 34 rfl (N := 14) rfl 22 _ _ rfl ji4 rfl rfl Tryd.underlying22 (.int .u32 0) 4 info34 rfl (by decide) (by omega) 0 (ok := fun _ => True) (okp := fun _ => True) rfl (fun _ hk => hk) trivial (DA) (Nat.le_trans (Nat.mul_le_mul_right _ (DA : ji4.toNat ≤ 70368744177664)) (by omega)) (Below.refl _ _) (Nat.le_refl _) ?_; intro v254 w7 ho8 hb hg_ hnew_; clear hg_ hnew_; (first | rw [← Ny253.out] at ho8 | (simp only [Int.reduceToNat] at ho8; rw [← Ny253.out] at ho8)); have n0_ := Aside0.mk (Kd.R_lower ho8 (below_size BL)); have n1_ := Aside0.mk (below_step BL hb); clear HB; have HO255 := n0_; have HB := n1_; clear n0_ n1_; clear hb ho8; obtain ⟨Ao9, co9, eo9⟩ := Kd.R_slice HO255.out; subst eo9))
  go_loopg [6, 17] k (fun kq v6 v17 w' => ∃ (x5_1 : List Int) (x6_1 : Int) (x17_1 : Int), v6 = .int .u64 x6_1 ∧ v17 = .int .i64 x17_1 ∧ Aside0 (nat_sum.l0 kq l0 l1 x5_1 x6_1 (y253.length : Int) x17_1 = some r) ∧ Aside0 (kq ≤ k) ∧ Aside0 (Kd.R (Kd.int .u32) 34 w' w.heap.size (fun _ => True) (.slice Ao9 y253.length co9) x5_1) ∧ Aside0 (Below w.heap.size w w'))
  case atStart => exact ⟨(y253), (0), (0), (by first | rfl | (simp; done) | (simp [*]; done) | (simp; exact isEmpty_bne _)), (by first | rfl | (simp; done) | (simp [*]; done) | (simp; exact isEmpty_bne _)), H', ⟨Nat.le_refl _⟩, ⟨by (with_reducible repeat (first | apply Kd.R_alloc | apply Kd.R_drewN | apply Kd.R_drew)); exact HO255.out⟩, ⟨BL⟩⟩
  case round =>
    clear H'
    try clear c1
    try clear p2
    try clear c5
    try clear c5b0
    try clear c5b1
    try clear c6
    try clear c6b0
    try clear c6b1
    try clear p6
    obtain ⟨x5_1, x6_1, x17_1, rfl, rfl, HA, HK1, HO_5, HB⟩ := hrel
    have hl5_1 := (Kd.R_reads' HO_5.out).1
    rw [hl5_1] at HO_5
    (try simp only [hl5_1])
    cases gk with
    | zero => exact absurd HA.out (by simp [nat_sum.l0])
    | succ k1 =>
      have H := HA.out
      clear HA
      simp only [nat_sum.l0] at H
      by_cases c10 : x17_1 < (y253.length : Int)
      · rw [if_pos c10] at H
        have c10b0 : decide (x17_1 < (y253.length : Int)) = true := decide_eq_true c10
        (try (have c10h0 := c10b0; simp only [hl5_1] at c10h0))
        clear c10
        obtain ⟨t256, A11, H⟩ := bind_p H
        obtain ⟨t257, A12, H⟩ := bind_p H
        obtain ⟨c13, H⟩ := ite_p H
        have c13b0 : decide (0 ≤ x17_1) = true := decide_eq_true c13
        clear c13
        obtain ⟨c14, H⟩ := ite_p H
        have c14b0 : decide (x17_1 < (x5_1.length : Int)) = true := decide_eq_true c14
        (try (have c14h0 := c14b0; simp only [hl5_1] at c14h0))
        clear c14
        obtain ⟨y258, Ny258⟩ := let_p (x5_1.set (x17_1 : Int).toNat ((IntKind.u64.wrap (x6_1 + (IntKind.u64.wrap (t256 + t257)))) % 4294967296) : List Int)
        (first | rw [← Ny258.out] at H | simp only [← Ny258.out] at H)
        have H' := Aside0.mk H
        clear H
        go_wp2_with (first | ((with_reducible refine gate_callee (f := 73) rfl ?_); refine goesL_ (some 23) rfl rfl Tryd.func73 (by kernel_rfl) rfl #[.slice A0 l0.length c0, .int .i64 x17_1] rfl EQ ?_; (with_reducible refine (nat_at.calls _ _ l0 x17_1 t256 _ ?side1 ?side2 A11.out).mono ?_); (case side1 => exact CB HR0); (case side2 => exact HC0.out); rintro e w' ⟨rfl, ⟨nd, rfl⟩⟩; refine ⟨_, rfl, ?_⟩; (try (rw [drewN_self wr]; generalize hq_ : World.drewN wr _ = wr; have n0_ : Aside0 (Kd.R (Kd.int .u32) 34 wr w.heap.size (fun _ => True) (.slice Ao9 x5_1.length co9) x5_1) := ⟨by rw [← hq_]; exact (RL HO_5)⟩; have n1_ : Aside0 (Below w.heap.size w wr) := ⟨by rw [← hq_]; exact BL⟩; clear HO_5 HB hq_; have HO_5 := n0_; have HB := n1_; clear n0_ n1_))) | ((with_reducible refine gate_callee (f := 73) rfl ?_); refine goesL_ (some 26) rfl rfl Tryd.func73 (by kernel_rfl) rfl #[.slice A1 l1.length c1, .int .i64 x17_1] rfl EQ ?_; (with_reducible refine (nat_at.calls _ _ l1 x17_1 t257 _ ?side1 ?side2 A12.out).mono ?_); (case side1 => exact CB HR1); (case side2 => exact HC1.out); rintro e w' ⟨rfl, ⟨nd, rfl⟩⟩; refine ⟨_, rfl, ?_⟩; (try (rw [drewN_self wr]; generalize hq_ : World.drewN wr _ = wr; have n0_ : Aside0 (Kd.R (Kd.int .u32) 34 wr w.heap.size (fun _ => True) (.slice Ao9 x5_1.length co9) x5_1) := ⟨by rw [← hq_]; exact (RL HO_5)⟩; have n1_ : Aside0 (Below w.heap.size w wr) := ⟨by rw [← hq_]; exact BL⟩; clear HO_5 HB hq_; have HO_5 := n0_; have HB := n1_; clear n0_ n1_)); have p15 : 0 ≤ (x17_1 : Int) := DA; have q15 : (x17_1 : Int) < ((x5_1.length : Int) : Int) := DA; obtain ⟨go15, co15, eo15, gb15, gl15, cl15, HG15⟩ := Kd.R_form HO_5.out (by omega); (first | cases eo15 | (injection eo15 with ea_ en_ ec_; (first | subst ea_ | (injection ea_ with ea_; subst ea_)); subst ec_; clear en_)); have GB15 := Aside0.mk gb15; have GG15 := Aside0.mk HG15; clear gb15 gl15 HG15; obtain ⟨hx15_0, hf15_0⟩ := Kd.R_celln 0 HO_5.out (x17_1 : Int) p15 q15; replace p15 := eq_true p15; replace q15 := eq_true q15; obtain ⟨hy16_, hz16_⟩ := Kd.R_celln 0 HO_5.out (x17_1 : Int) (DA) (DA); have HP16 := Kd.R_putg HO_5.out (x17_1 : Int) ((IntKind.u64.wrap (x6_1 + (IntKind.u64.wrap (t256 + t257)))) % 4294967296)) | ((with_reducible refine gate_store (t := 34) (p := 33) rfl ?_); refine store_event (t := 34) (p := 33) (v := ?vo_w17) (w1 := (wr.setCell ⟨go15, (x17_1 : Int).toNat, none⟩ (.int .u32 ((IntKind.u64.wrap (x6_1 + (IntKind.u64.wrap (t256 + t257)))) % 4294967296)))) ?hg ?ho ?hn ?hr ?_; (case ho => rfl); (case hg => rfl); (case hn => rfl); (case hr => first | (go_simp; done) | (go_simp; rfl)); intro w17 hw; have hg : wr.grownBy w17 (some go15) := (by rw [hw]; exact HP16.2); have hp_ : Kd.R (Kd.int .u32) 34 w17 w.heap.size (fun _ => True) (.slice (some ⟨go15, 0, none⟩) x5_1.length co9) y258 := (by rw [hw, Ny258.out]; exact HP16.1); clear HP16; have n0_ := Aside0.mk (hp_); have n1_ := Aside0.mk ((by rw [hw]; exact below_set (HB.out) GB15.out : Below w.heap.size w w17)); clear HO_5; clear HB; have HO_5 := n0_; have HB := n1_; clear n0_ n1_; clear hg hw hp_))
        (try simp only [← hl5_1])
        go_roundg k1
        case measure => have := HK1.out; omega
        case rel => exact ⟨(y258), ((IntKind.u64.wrap (x6_1 + (IntKind.u64.wrap (t256 + t257)))) / 4294967296), (wrap64 (x17_1 + 1)), (by first | rfl | (simp; done) | (simp [*]; done) | (simp; exact isEmpty_bne _)), (by first | rfl | (simp; done) | (simp [*]; done) | (simp; exact isEmpty_bne _)), H', ⟨by have := HK1.out; omega⟩, ⟨by (try simp only [hl5_1]); (with_reducible repeat (first | apply Kd.R_alloc | apply Kd.R_drewN | apply Kd.R_drew)); exact HO_5.out⟩, ⟨BL⟩⟩
      · rw [if_neg c10] at H
        have c10b0 : decide (x17_1 < (y253.length : Int)) = false := decide_eq_false c10
        (try (have c10h0 := c10b0; simp only [hl5_1] at c10h0))
        clear c10
        obtain ⟨t259, A18, H⟩ := bind_p H
        obtain rfl := Option.some.inj H
        go_wp2_with (first | ((with_reducible refine gate_callee (f := 56) rfl ?_); refine goesL_ (some 38) rfl rfl Tryd.func56 (by kernel_rfl) rfl #[.slice Ao9 x5_1.length co9] rfl EQ ?_; (with_reducible refine (nat_trim.calls k1 (fun k_ => some k_ = (.slice Ao9 x5_1.length co9 : Value).ownBlock) (.slice Ao9 x5_1.length co9) x5_1 t259 w _ ?side1 ?side2 A18.out).mono ?_); (case side1 => repeat (first | (with_reducible first | exact HB.out | apply below_alloc | apply pw_below_drewN | apply below_drew1) | exact HB.out)); (case side2 => exact Kd.R_tight rfl HO_5.out); rintro e w19 ⟨v260, rfl, ho0, hb, hkp⟩; refine ⟨_, rfl, ?_⟩; have n0_ := Aside0.mk (Kd.R_mono (ok' := fun k_ => True) ho0 (fun k_ hk_ => trivial)); have n1_ := Aside0.mk (hb); clear HB; clear HO_5; have HO261 := n0_; have HB := n1_; clear n0_ n1_; (try clear hb); (try clear hkp); (try clear ho0)))
        go_ret
        exact ⟨_, by first | rfl | (simp [errW_none, errW_some] <;> rfl) | (simp only [← hji3, ← hji4]; first | rfl | (simp [errW_none, errW_some] <;> rfl)) | (simp [*, errW_none, errW_some] <;> rfl), by (with_reducible repeat (first | apply Kd.R_alloc | apply Kd.R_drewN | apply Kd.R_drew)); exact HO261.out, BL⟩

/-! ### nat_Add: function 46 -/
set_option maxHeartbeats 8000000 in
set_option maxRecDepth 100000 in
theorem nat_Add.calls (k : Nat) (A0 : Option Addr) (c0 : Nat) (l0 : List Int) (A1 : Option Addr) (c1 : Nat) (l1 : List Int) (r1 : List Int) (r2 : Int) (w : World) (hr0 : Kd.C (Kd.int .u32) w A0 l0.length l0) (hc0 : l0.length ≤ c0) (hr1 : Kd.C (Kd.int .u32) w A1 l1.length l1) (hc1 : l1.length ≤ c1) (h : nat_Add.f k l0 l1 = some (r1, r2)) :
    Calls Tryd.prog 46 #[.slice A0 l0.length c0, .slice A1 l1.length c1] w fun e w' => ∃ v0_ : Value, e = .returned (.tuple #[v0_, .int .i64 r2]) ∧ Kd.R (Kd.int .u32) 34 w' w.heap.size (fun _ => True) v0_ r1 ∧ Below w.heap.size w w' := by
  have HR0 := Aside0.mk hr0
  have HC0 := Aside0.mk hc0
  clear hr0 hc0
  have HR1 := Aside0.mk hr1
  have HC1 := Aside0.mk hc1
  clear hr1 hc1
  have HB := Aside0.mk (Below.refl w.heap.size w)
  have H : ((nat_Right.f l0).bind fun t262 => (if t262 = true then ((nat_Right.f l1).bind fun t263 => (nat_Add.j0 k l0 l1 (!t263))) else (nat_Add.j0 k l0 l1 true))) = some (r1, r2) := h
  clear h
  have HC3 := Aside0.mk H
  clear H
  go_enter Tryd.func46, Tryd.ntmps46
  go_upto_region 1 with (fail)
  go_cut [13] (fun v13 wc => ∃ (kq : Nat) (x13_2 : Bool), v13 = .bool x13_2 ∧ Aside0 (nat_Add.j0 kq l0 l1 x13_2 = some (r1, r2)) ∧ Aside0 (kq ≤ k) ∧ Aside0 (Below w.heap.size w wc))
  case first =>
    have H := HC3.out
    clear HC3
    obtain ⟨t262, A4, H⟩ := bind_p H
    by_cases c5 : t262 = true
    · subst c5
      have H1 : ((nat_Right.f l1).bind fun t263 => (nat_Add.j0 k l0 l1 (!t263))) = some (r1, r2) := by rw [if_pos rfl] at H; exact H
      clear H
      have H := H1
      clear H1
      obtain ⟨t263, A6, H⟩ := bind_p H
      have H' := Aside0.mk H
      clear H
      go_wp2_with (first | ((with_reducible refine gate_callee (f := 33) rfl ?_); refine goesL_ (some 7) rfl rfl Tryd.func33 (by kernel_rfl) rfl #[.slice A0 l0.length c0] rfl EQ ?_; (with_reducible refine (nat_Right.calls _ _ l0 true _ ?side1 ?side2 A4.out).mono ?_); (case side1 => exact CB HR0); (case side2 => exact HC0.out); rintro e w' ⟨rfl, ⟨nd, rfl⟩⟩; refine ⟨_, rfl, ?_⟩) | (go_at_call 33; (with_reducible refine (nat_Right.calls _ _ l1 t263 _ ?side1 ?side2 A6.out).mono ?_); (case side1 => repeat (first | exact (Kd.C_below HR1.out BL) | (with_reducible refine Kd.C_alloc ?_ _) | (with_reducible refine Kd.C_drewN ?_ _) | (with_reducible refine Kd.C_drew ?_))); (case side2 => exact HC1.out); rintro e w' ⟨rfl, ⟨nd, rfl⟩⟩))
      go_meet
      case rel => exact ⟨_, (!t263), (by first | rfl | (simp; done) | (simp [*]; done) | (simp; exact isEmpty_bne _)), H', ⟨by first | omega | exact Nat.le_refl _⟩, ⟨BL⟩⟩
    · replace c5 := Bool.eq_false_iff.mpr c5
      subst c5
      have H1 : (nat_Add.j0 k l0 l1 true) = some (r1, r2) := by rw [if_neg (show ¬ (false = true) by decide)] at H; exact H
      clear H
      have H := H1
      clear H1
      have H' := Aside0.mk H
      clear H
      go_wp2_with (first | ((with_reducible refine gate_callee (f := 33) rfl ?_); refine goesL_ (some 7) rfl rfl Tryd.func33 (by kernel_rfl) rfl #[.slice A0 l0.length c0] rfl EQ ?_; (with_reducible refine (nat_Right.calls _ _ l0 false _ ?side1 ?side2 A4.out).mono ?_); (case side1 => exact CB HR0); (case side2 => exact HC0.out); rintro e w' ⟨rfl, ⟨nd, rfl⟩⟩; refine ⟨_, rfl, ?_⟩))
      go_meet
      case rel => exact ⟨_, (true), (by first | rfl | (simp; done) | (simp [*]; done) | (simp; exact isEmpty_bne _)), H', ⟨by first | omega | exact Nat.le_refl _⟩, ⟨BL⟩⟩
  case rest =>
    clear HC3
    try clear c1
    try clear p2
    try clear c3
    try clear c4
    try clear c5
    obtain ⟨kq, x13_2, rfl, HA, HJ2, HB⟩ := hcut
    cases kq with
    | zero => exact absurd HA.out (by simp [nat_Add.j0])
    | succ kj2 =>
      have H := HA.out
      clear HA
      simp only [nat_Add.j0] at H
      by_cases c7 : x13_2 = true
      · subst c7
        have H1 : (some (([] : List Int), 1)) = some (r1, r2) := by rw [if_pos rfl] at H; exact H
        clear H
        have H := H1
        clear H1
        simp only [Option.some.injEq, Prod.mk.injEq] at H
        obtain ⟨rfl, rfl⟩ := H
        go_wp2
        go_ret2
        exact ⟨_, by first | rfl | (simp [errW_none, errW_some] <;> rfl) | (simp [*, errW_none, errW_some] <;> rfl), by first | exact Kd.R_nil _ _ _ _ _ | exact Kd.N_nil _ _ _ _ _ | exact Kd.V_nil _ _ _ _ _ | exact Kd.Q_nil _ _ _ _ _ | exact Kd.S_nil _ _ _ _ _, BL⟩
      · replace c7 := Bool.eq_false_iff.mpr c7
        subst c7
        have H1 : ((nat_sum.f kj2 l0 l1).bind fun t264 => ((nat_kept.f t264).bind fun bt267 => (some (bt267.1, bt267.2)))) = some (r1, r2) := by rw [if_neg (show ¬ (false = true) by decide)] at H; exact H
        clear H
        have H := H1
        clear H1
        obtain ⟨t264, A8, H⟩ := bind_p H
        obtain ⟨⟨t267, t270⟩, A9, H⟩ := bind_p H
        dsimp only at H
        simp only [Option.some.injEq, Prod.mk.injEq] at H
        obtain ⟨rfl, rfl⟩ := H
        go_wp2_with (first | ((with_reducible refine gate_callee (f := 67) rfl ?_); refine goesL_ (some 16) rfl rfl Tryd.func67 (by kernel_rfl) rfl #[.slice A0 l0.length c0, .slice A1 l1.length c1] rfl EQ ?_; (with_reducible refine (nat_sum.calls kj2 _ _ l0 _ _ l1 t264 _ ?side1 ?side2 ?side3 ?side4 A8.out).mono ?_); (case side1 => exact CB HR0); (case side2 => exact HC0.out); (case side3 => exact CB HR1); (case side4 => exact HC1.out); rintro e w10 ⟨v265, rfl, ho0, hb⟩; refine ⟨_, rfl, ?_⟩; have n0_ := Aside0.mk (Kd.R_lower ho0 (below_size BL)); have n1_ := Aside0.mk (below_step BL hb); clear HB; have HO266 := n0_; have HB := n1_; clear n0_ n1_; (try clear hb); (try clear hb2); (try clear hk); (try clear hi); (try clear ho0); obtain ⟨Ao11, co11, eo11⟩ := Kd.R_slice HO266.out; subst eo11) | ((with_reducible refine gate_callee (f := 66) rfl ?_); refine goesL_ (some 17) rfl rfl Tryd.func66 (by kernel_rfl) rfl #[.slice Ao11 t264.length co11] rfl EQ ?_; (with_reducible refine (nat_kept.calls (fun k_ => some k_ = (.slice Ao11 t264.length co11 : Value).ownBlock) (.slice Ao11 t264.length co11) t264 t267 t270 w _ ?side1 ?side2 A9.out).mono ?_); (case side1 => repeat (first | (with_reducible first | exact HB.out | apply below_alloc | apply pw_below_drewN | apply below_drew1) | exact HB.out)); (case side2 => exact Kd.R_tight rfl HO266.out); rintro e w12 ⟨v268, rfl, ho0, hb, hkp⟩; refine ⟨_, rfl, ?_⟩; have n0_ := Aside0.mk (Kd.R_mono (ok' := fun k_ => True) ho0 (fun k_ hk_ => trivial)); have n1_ := Aside0.mk (hb); clear HB; clear HO266; have HO269 := n0_; have HB := n1_; clear n0_ n1_; (try clear hb); (try clear hkp); (try clear ho0)))
        go_ret2
        exact ⟨_, by first | rfl | (simp [errW_none, errW_some] <;> rfl) | (simp [*, errW_none, errW_some] <;> rfl), by (with_reducible repeat (first | apply Kd.R_alloc | apply Kd.R_drewN | apply Kd.R_drew)); exact HO269.out, BL⟩

/-! ### nat_less: function 65 -/
set_option maxHeartbeats 8000000 in
set_option maxRecDepth 100000 in
theorem nat_less.calls (k : Nat) (A0 : Option Addr) (c0 : Nat) (l0 : List Int) (A1 : Option Addr) (c1 : Nat) (l1 : List Int) (r : List Int) (w : World) (hr0 : Kd.C (Kd.int .u32) w A0 l0.length l0) (hc0 : l0.length ≤ c0) (hr1 : Kd.C (Kd.int .u32) w A1 l1.length l1) (hc1 : l1.length ≤ c1) (h : nat_less.f k l0 l1 = some r) :
    Calls Tryd.prog 65 #[.slice A0 l0.length c0, .slice A1 l1.length c1] w fun e w' => ∃ v0_ : Value, e = .returned (v0_) ∧ Kd.R (Kd.int .u32) 34 w' w.heap.size (fun _ => True) v0_ r ∧ Below w.heap.size w w' := by
  have HR0 := Aside0.mk hr0
  have HC0 := Aside0.mk hc0
  clear hr0 hc0
  have HR1 := Aside0.mk hr1
  have HC1 := Aside0.mk hc1
  clear hr1 hc1
  have HB := Aside0.mk (Below.refl w.heap.size w)
  have H : (if 0 ≤ (l0.length : Int) then (if ((l0.length : Int) : Int).toNat ≤ 70368744177664 then ((some (List.replicate ((l0.length : Int) : Int).toNat 0 : List Int)).bind fun y271 => (nat_less.l0 k l0 l1 y271 0 (y271.length : Int) 0)) else (none)) else (none)) = some r := h
  clear h
  obtain ⟨c3, H⟩ := ite_p H
  have c3b0 := eq_true c3
  have c3b1 : decide (0 ≤ (l0.length : Int)) = true := decide_eq_true c3
  clear c3
  obtain ⟨c4, H⟩ := ite_p H
  have c4b0 := eq_true c4
  have c4b1 : decide (((l0.length : Int) : Int).toNat ≤ 70368744177664) = true := decide_eq_true c4
  clear c4
  obtain ⟨y271, Ny271, H⟩ := some_p H
  have H' := Aside0.mk H
  clear H
  go_enter Tryd.func65, Tryd.ntmps65
  go_wp2_with (first | ((with_reducible refine gate_dst (N := 11) rfl ?_); refine Kd.R_make (Kd.int .u32) _ 34 rfl (N := 11) rfl 22 _ _ rfl (l0.length : Int) rfl rfl Tryd.underlying22 (.int .u32 0) 4 info34 rfl (by decide) (by omega) 0 (ok := fun _ => True) (okp := fun _ => True) rfl (fun _ hk => hk) trivial (DA) (Nat.le_trans (Nat.mul_le_mul_right _ (DA : (l0.length : Int).toNat ≤ 70368744177664)) (by omega)) (Below.refl _ _) (Nat.le_refl _) ?_; intro v272 w5 ho6 hb hg_ hnew_; clear hg_ hnew_; (first | rw [← Ny271.out] at ho6 | (simp only [Int.reduceToNat] at ho6; rw [← Ny271.out] at ho6)); have n0_ := Aside0.mk (Kd.R_lower ho6 (below_size BL)); have n1_ := Aside0.mk (below_step BL hb); clear HB; have HO273 := n0_; have HB := n1_; clear n0_ n1_; clear hb ho6; obtain ⟨Ao7, co7, eo7⟩ := Kd.R_slice HO273.out; subst eo7))
  repeat (go_quiet (first | ((with_reducible refine gate_dst (N := 11) rfl ?_); refine Kd.R_make (Kd.int .u32) _ 34 rfl (N := 11) rfl 22 _ _ rfl (l0.length : Int) rfl rfl Tryd.underlying22 (.int .u32 0) 4 info34 rfl (by decide) (by omega) 0 (ok := fun _ => True) (okp := fun _ => True) rfl (fun _ hk => hk) trivial (DA) (Nat.le_trans (Nat.mul_le_mul_right _ (DA : (l0.length : Int).toNat ≤ 70368744177664)) (by omega)) (Below.refl _ _) (Nat.le_refl _) ?_; intro v272 w5 ho6 hb hg_ hnew_; clear hg_ hnew_; (first | rw [← Ny271.out] at ho6 | (simp only [Int.reduceToNat] at ho6; rw [← Ny271.out] at ho6)); have n0_ := Aside0.mk (Kd.R_lower ho6 (below_size BL)); have n1_ := Aside0.mk (below_step BL hb); clear HB; have HO273 := n0_; have HB := n1_; clear n0_ n1_; clear hb ho6; obtain ⟨Ao7, co7, eo7⟩ := Kd.R_slice HO273.out; subst eo7)); try go_wp2_with (first | ((with_reducible refine gate_dst (N := 11) rfl ?_); refine Kd.R_make (Kd.int .u32) _ 34 rfl (N := 11) rfl 22 _ _ rfl (l0.length : Int) rfl rfl Tryd.underlying22 (.int .u32 0) 4 info34 rfl (by decide) (by omega) 0 (ok := fun _ => True) (okp := fun _ => True) rfl (fun _ hk => hk) trivial (DA) (Nat.le_trans (Nat.mul_le_mul_right _ (DA : (l0.length : Int).toNat ≤ 70368744177664)) (by omega)) (Below.refl _ _) (Nat.le_refl _) ?_; intro v272 w5 ho6 hb hg_ hnew_; clear hg_ hnew_; (first | rw [← Ny271.out] at ho6 | (simp only [Int.reduceToNat] at ho6; rw [← Ny271.out] at ho6)); have n0_ := Aside0.mk (Kd.R_lower ho6 (below_size BL)); have n1_ := Aside0.mk (below_step BL hb); clear HB; have HO273 := n0_; have HB := n1_; clear n0_ n1_; clear hb ho6; obtain ⟨Ao7, co7, eo7⟩ := Kd.R_slice HO273.out; subst eo7)))
  go_loopg [6, 14] k (fun kq v6 v14 w' => ∃ (x5_1 : List Int) (x6_1 : Int) (x14_1 : Int), v6 = .int .u64 x6_1 ∧ v14 = .int .i64 x14_1 ∧ Aside0 (nat_less.l0 kq l0 l1 x5_1 x6_1 (y271.length : Int) x14_1 = some r) ∧ Aside0 (kq ≤ k) ∧ Aside0 (Kd.R (Kd.int .u32) 34 w' w.heap.size (fun _ => True) (.slice Ao7 y271.length co7) x5_1) ∧ Aside0 (Below w.heap.size w w'))
  case atStart => exact ⟨(y271), (0), (0), (by first | rfl | (simp; done) | (simp [*]; done) | (simp; exact isEmpty_bne _)), (by first | rfl | (simp; done) | (simp [*]; done) | (simp; exact isEmpty_bne _)), H', ⟨Nat.le_refl _⟩, ⟨by (with_reducible repeat (first | apply Kd.R_alloc | apply Kd.R_drewN | apply Kd.R_drew)); exact HO273.out⟩, ⟨BL⟩⟩
  case round =>
    clear H'
    try clear c1
    try clear p2
    try clear c3
    try clear c3b0
    try clear c3b1
    try clear c4
    try clear c4b0
    try clear c4b1
    try clear c6
    obtain ⟨x5_1, x6_1, x14_1, rfl, rfl, HA, HK1, HO_5, HB⟩ := hrel
    have hl5_1 := (Kd.R_reads' HO_5.out).1
    rw [hl5_1] at HO_5
    (try simp only [hl5_1])
    cases gk with
    | zero => exact absurd HA.out (by simp [nat_less.l0])
    | succ k1 =>
      have H := HA.out
      clear HA
      simp only [nat_less.l0] at H
      by_cases c8 : x14_1 < (y271.length : Int)
      · rw [if_pos c8] at H
        have c8b0 : decide (x14_1 < (y271.length : Int)) = true := decide_eq_true c8
        (try (have c8h0 := c8b0; simp only [hl5_1] at c8h0))
        clear c8
        obtain ⟨c9, H⟩ := ite_p H
        have c9b0 : decide (0 ≤ x14_1) = true := decide_eq_true c9
        clear c9
        obtain ⟨c10, H⟩ := ite_p H
        have c10b0 : decide (x14_1 < (l0.length : Int)) = true := decide_eq_true c10
        (try (have c10h0 := c10b0; simp only [hl5_1] at c10h0))
        clear c10
        obtain ⟨t275, A11, H⟩ := bind_p H
        obtain ⟨c12, H⟩ := ite_p H
        have c12b0 : decide (x14_1 < (x5_1.length : Int)) = true := decide_eq_true c12
        (try (have c12h0 := c12b0; simp only [hl5_1] at c12h0))
        clear c12
        obtain ⟨y276, Ny276⟩ := let_p (x5_1.set (x14_1 : Int).toNat ((IntKind.u64.wrap ((IntKind.u64.wrap ((IntKind.u64.wrap (rd l0 x14_1)) - t275)) - x6_1)) % 4294967296) : List Int)
        (first | rw [← Ny276.out] at H | simp only [← Ny276.out] at H)
        have H' := Aside0.mk H
        clear H
        have p274 : 0 ≤ (x14_1 : Int) := DA
        have q274 : x14_1 < (l0.length : Int) := DA
        obtain ⟨ad274, e274, hx274_0⟩ := Kd.at_int HR0.out x14_1 p274 q274
        cases e274
        replace hx274_0 := (HB.out.cell (World.block_lt_of_cell? w _ hx274_0)).trans hx274_0
        replace p274 := eq_true p274
        replace q274 := eq_true q274
        go_wp2_with (first | (go_at_call 73; (with_reducible refine (nat_at.calls _ _ l1 x14_1 t275 _ ?side1 ?side2 A11.out).mono ?_); (case side1 => exact CB HR1); (case side2 => exact HC1.out); rintro e w' ⟨rfl, ⟨nd, rfl⟩⟩; (try first | exact ⟨rfl, _, World.drewN_drewN _ _ _⟩ | exact ⟨rfl, _, Eq.trans (World.drewN_drewN _ _ _) (congrArg (World.drewN _) (Nat.add_assoc _ _ _))⟩); have p13 : 0 ≤ (x14_1 : Int) := DA; have q13 : (x14_1 : Int) < ((x5_1.length : Int) : Int) := DA; obtain ⟨go13, co13, eo13, gb13, gl13, cl13, HG13⟩ := Kd.R_form HO_5.out (by omega); (first | cases eo13 | (injection eo13 with ea_ en_ ec_; (first | subst ea_ | (injection ea_ with ea_; subst ea_)); subst ec_; clear en_)); have GB13 := Aside0.mk gb13; have GG13 := Aside0.mk HG13; clear gb13 gl13 HG13; obtain ⟨hx13_0, hf13_0⟩ := Kd.R_celln 0 HO_5.out (x14_1 : Int) p13 q13; replace p13 := eq_true p13; replace q13 := eq_true q13; obtain ⟨hy14_, hz14_⟩ := Kd.R_celln 0 HO_5.out (x14_1 : Int) (DA) (DA); have HP14 := Kd.R_putg HO_5.out (x14_1 : Int) ((IntKind.u64.wrap ((IntKind.u64.wrap ((IntKind.u64.wrap (rd l0 x14_1)) - t275)) - x6_1)) % 4294967296)) | ((with_reducible refine gate_store (t := 34) (p := 32) rfl ?_); (try (rw [drewN_self wr]; generalize hq_ : World.drewN wr _ = wr; have n0_ := Aside0.mk (Kd.R_at hq_ HO_5.out); have n1_ := Aside0.mk (below_at hq_ HB.out); clear hq_ HO_5 HB; have HO_5 := n0_; have HB := n1_; clear n0_ n1_; (try (obtain ⟨hx13_0, hf13_0⟩ := Kd.R_celln 0 HO_5.out (x14_1 : Int) (of_eq_true p13) (of_eq_true q13))); (try (obtain ⟨hy14_, hz14_⟩ := Kd.R_celln 0 HO_5.out (x14_1 : Int) (DA) (DA))); (try (have HP14 := Kd.R_putg HO_5.out (x14_1 : Int) ((IntKind.u64.wrap ((IntKind.u64.wrap ((IntKind.u64.wrap (rd l0 x14_1)) - t275)) - x6_1)) % 4294967296))))); refine store_event (t := 34) (p := 32) (v := ?vo_w15) (w1 := (wr.setCell ⟨go13, (x14_1 : Int).toNat, none⟩ (.int .u32 ((IntKind.u64.wrap ((IntKind.u64.wrap ((IntKind.u64.wrap (rd l0 x14_1)) - t275)) - x6_1)) % 4294967296)))) ?hg ?ho ?hn ?hr ?_; (case ho => rfl); (case hg => rfl); (case hn => rfl); (case hr => first | (go_simp; done) | (go_simp; rfl)); intro w15 hw; have hg : wr.grownBy w15 (some go13) := (by rw [hw]; exact HP14.2); have hp_ : Kd.R (Kd.int .u32) 34 w15 w.heap.size (fun _ => True) (.slice (some ⟨go13, 0, none⟩) x5_1.length co7) y276 := (by rw [hw, Ny276.out]; exact HP14.1); clear HP14; have n0_ := Aside0.mk (hp_); have n1_ := Aside0.mk ((by rw [hw]; exact below_set (HB.out) GB13.out : Below w.heap.size w w15)); clear HO_5; clear HB; have HO_5 := n0_; have HB := n1_; clear n0_ n1_; clear hg hw hp_))
        repeat (go_quiet (first | (go_at_call 73; (with_reducible refine (nat_at.calls _ _ l1 x14_1 t275 _ ?side1 ?side2 A11.out).mono ?_); (case side1 => exact CB HR1); (case side2 => exact HC1.out); rintro e w' ⟨rfl, ⟨nd, rfl⟩⟩; (try first | exact ⟨rfl, _, World.drewN_drewN _ _ _⟩ | exact ⟨rfl, _, Eq.trans (World.drewN_drewN _ _ _) (congrArg (World.drewN _) (Nat.add_assoc _ _ _))⟩); have p13 : 0 ≤ (x14_1 : Int) := DA; have q13 : (x14_1 : Int) < ((x5_1.length : Int) : Int) := DA; obtain ⟨go13, co13, eo13, gb13, gl13, cl13, HG13⟩ := Kd.R_form HO_5.out (by omega); (first | cases eo13 | (injection eo13 with ea_ en_ ec_; (first | subst ea_ | (injection ea_ with ea_; subst ea_)); subst ec_; clear en_)); have GB13 := Aside0.mk gb13; have GG13 := Aside0.mk HG13; clear gb13 gl13 HG13; obtain ⟨hx13_0, hf13_0⟩ := Kd.R_celln 0 HO_5.out (x14_1 : Int) p13 q13; replace p13 := eq_true p13; replace q13 := eq_true q13; obtain ⟨hy14_, hz14_⟩ := Kd.R_celln 0 HO_5.out (x14_1 : Int) (DA) (DA); have HP14 := Kd.R_putg HO_5.out (x14_1 : Int) ((IntKind.u64.wrap ((IntKind.u64.wrap ((IntKind.u64.wrap (rd l0 x14_1)) - t275)) - x6_1)) % 4294967296)) | ((with_reducible refine gate_store (t := 34) (p := 32) rfl ?_); (try (rw [drewN_self wr]; generalize hq_ : World.drewN wr _ = wr; have n0_ := Aside0.mk (Kd.R_at hq_ HO_5.out); have n1_ := Aside0.mk (below_at hq_ HB.out); clear hq_ HO_5 HB; have HO_5 := n0_; have HB := n1_; clear n0_ n1_; (try (obtain ⟨hx13_0, hf13_0⟩ := Kd.R_celln 0 HO_5.out (x14_1 : Int) (of_eq_true p13) (of_eq_true q13))); (try (obtain ⟨hy14_, hz14_⟩ := Kd.R_celln 0 HO_5.out (x14_1 : Int) (DA) (DA))); (try (have HP14 := Kd.R_putg HO_5.out (x14_1 : Int) ((IntKind.u64.wrap ((IntKind.u64.wrap ((IntKind.u64.wrap (rd l0 x14_1)) - t275)) - x6_1)) % 4294967296))))); refine store_event (t := 34) (p := 32) (v := ?vo_w15) (w1 := (wr.setCell ⟨go13, (x14_1 : Int).toNat, none⟩ (.int .u32 ((IntKind.u64.wrap ((IntKind.u64.wrap ((IntKind.u64.wrap (rd l0 x14_1)) - t275)) - x6_1)) % 4294967296)))) ?hg ?ho ?hn ?hr ?_; (case ho => rfl); (case hg => rfl); (case hn => rfl); (case hr => first | (go_simp; done) | (go_simp; rfl)); intro w15 hw; have hg : wr.grownBy w15 (some go13) := (by rw [hw]; exact HP14.2); have hp_ : Kd.R (Kd.int .u32) 34 w15 w.heap.size (fun _ => True) (.slice (some ⟨go13, 0, none⟩) x5_1.length co7) y276 := (by rw [hw, Ny276.out]; exact HP14.1); clear HP14; have n0_ := Aside0.mk (hp_); have n1_ := Aside0.mk ((by rw [hw]; exact below_set (HB.out) GB13.out : Below w.heap.size w w15)); clear HO_5; clear HB; have HO_5 := n0_; have HB := n1_; clear n0_ n1_; clear hg hw hp_)); try go_wp2_with (first | (go_at_call 73; (with_reducible refine (nat_at.calls _ _ l1 x14_1 t275 _ ?side1 ?side2 A11.out).mono ?_); (case side1 => exact CB HR1); (case side2 => exact HC1.out); rintro e w' ⟨rfl, ⟨nd, rfl⟩⟩; (try first | exact ⟨rfl, _, World.drewN_drewN _ _ _⟩ | exact ⟨rfl, _, Eq.trans (World.drewN_drewN _ _ _) (congrArg (World.drewN _) (Nat.add_assoc _ _ _))⟩); have p13 : 0 ≤ (x14_1 : Int) := DA; have q13 : (x14_1 : Int) < ((x5_1.length : Int) : Int) := DA; obtain ⟨go13, co13, eo13, gb13, gl13, cl13, HG13⟩ := Kd.R_form HO_5.out (by omega); (first | cases eo13 | (injection eo13 with ea_ en_ ec_; (first | subst ea_ | (injection ea_ with ea_; subst ea_)); subst ec_; clear en_)); have GB13 := Aside0.mk gb13; have GG13 := Aside0.mk HG13; clear gb13 gl13 HG13; obtain ⟨hx13_0, hf13_0⟩ := Kd.R_celln 0 HO_5.out (x14_1 : Int) p13 q13; replace p13 := eq_true p13; replace q13 := eq_true q13; obtain ⟨hy14_, hz14_⟩ := Kd.R_celln 0 HO_5.out (x14_1 : Int) (DA) (DA); have HP14 := Kd.R_putg HO_5.out (x14_1 : Int) ((IntKind.u64.wrap ((IntKind.u64.wrap ((IntKind.u64.wrap (rd l0 x14_1)) - t275)) - x6_1)) % 4294967296)) | ((with_reducible refine gate_store (t := 34) (p := 32) rfl ?_); (try (rw [drewN_self wr]; generalize hq_ : World.drewN wr _ = wr; have n0_ := Aside0.mk (Kd.R_at hq_ HO_5.out); have n1_ := Aside0.mk (below_at hq_ HB.out); clear hq_ HO_5 HB; have HO_5 := n0_; have HB := n1_; clear n0_ n1_; (try (obtain ⟨hx13_0, hf13_0⟩ := Kd.R_celln 0 HO_5.out (x14_1 : Int) (of_eq_true p13) (of_eq_true q13))); (try (obtain ⟨hy14_, hz14_⟩ := Kd.R_celln 0 HO_5.out (x14_1 : Int) (DA) (DA))); (try (have HP14 := Kd.R_putg HO_5.out (x14_1 : Int) ((IntKind.u64.wrap ((IntKind.u64.wrap ((IntKind.u64.wrap (rd l0 x14_1)) - t275)) - x6_1)) % 4294967296))))); refine store_event (t := 34) (p := 32) (v := ?vo_w15) (w1 := (wr.setCell ⟨go13, (x14_1 : Int).toNat, none⟩ (.int .u32 ((IntKind.u64.wrap ((IntKind.u64.wrap ((IntKind.u64.wrap (rd l0 x14_1)) - t275)) - x6_1)) % 4294967296)))) ?hg ?ho ?hn ?hr ?_; (case ho => rfl); (case hg => rfl); (case hn => rfl); (case hr => first | (go_simp; done) | (go_simp; rfl)); intro w15 hw; have hg : wr.grownBy w15 (some go13) := (by rw [hw]; exact HP14.2); have hp_ : Kd.R (Kd.int .u32) 34 w15 w.heap.size (fun _ => True) (.slice (some ⟨go13, 0, none⟩) x5_1.length co7) y276 := (by rw [hw, Ny276.out]; exact HP14.1); clear HP14; have n0_ := Aside0.mk (hp_); have n1_ := Aside0.mk ((by rw [hw]; exact below_set (HB.out) GB13.out : Below w.heap.size w w15)); clear HO_5; clear HB; have HO_5 := n0_; have HB := n1_; clear n0_ n1_; clear hg hw hp_)))
        (try simp only [← hl5_1])
        go_roundg k1
        case measure => have := HK1.out; omega
        case rel => exact ⟨(y276), ((IntKind.u64.wrap ((IntKind.u64.wrap ((IntKind.u64.wrap (rd l0 x14_1)) - t275)) - x6_1)) / 9223372036854775808), (wrap64 (x14_1 + 1)), (by first | rfl | (simp; done) | (simp [*]; done) | (simp; exact isEmpty_bne _)), (by first | rfl | (simp; done) | (simp [*]; done) | (simp; exact isEmpty_bne _)), H', ⟨by have := HK1.out; omega⟩, ⟨by (try simp only [hl5_1]); (with_reducible repeat (first | apply Kd.R_alloc | apply Kd.R_drewN | apply Kd.R_drew)); exact HO_5.out⟩, ⟨BL⟩⟩
      · rw [if_neg c8] at H
        have c8b0 : decide (x14_1 < (y271.length : Int)) = false := decide_eq_false c8
        (try (have c8h0 := c8b0; simp only [hl5_1] at c8h0))
        clear c8
        obtain ⟨t277, A16, H⟩ := bind_p H
        obtain rfl := Option.some.inj H
        go_wp2_with (first | (go_at_call 56; (with_reducible refine (nat_trim.calls k1 (fun k_ => some k_ = (.slice Ao7 x5_1.length co7 : Value).ownBlock) (.slice Ao7 x5_1.length co7) x5_1 t277 w _ ?side1 ?side2 A16.out).mono ?_); (case side1 => repeat (first | (with_reducible first | exact HB.out | apply below_alloc | apply pw_below_drewN | apply below_drew1) | exact HB.out)); (case side2 => exact Kd.R_tight rfl HO_5.out); rintro e w17 ⟨v278, rfl, ho0, hb, hkp⟩; have n0_ := Aside0.mk (Kd.R_mono (ok' := fun k_ => True) ho0 (fun k_ hk_ => trivial)); have n1_ := Aside0.mk (hb); clear HB; clear HO_5; have HO279 := n0_; have HB := n1_; clear n0_ n1_; (try clear hb); (try clear hkp); (try clear ho0)))
        repeat (go_quiet (first | (go_at_call 56; (with_reducible refine (nat_trim.calls k1 (fun k_ => some k_ = (.slice Ao7 x5_1.length co7 : Value).ownBlock) (.slice Ao7 x5_1.length co7) x5_1 t277 w _ ?side1 ?side2 A16.out).mono ?_); (case side1 => repeat (first | (with_reducible first | exact HB.out | apply below_alloc | apply pw_below_drewN | apply below_drew1) | exact HB.out)); (case side2 => exact Kd.R_tight rfl HO_5.out); rintro e w17 ⟨v278, rfl, ho0, hb, hkp⟩; have n0_ := Aside0.mk (Kd.R_mono (ok' := fun k_ => True) ho0 (fun k_ hk_ => trivial)); have n1_ := Aside0.mk (hb); clear HB; clear HO_5; have HO279 := n0_; have HB := n1_; clear n0_ n1_; (try clear hb); (try clear hkp); (try clear ho0))); try go_wp2_with (first | (go_at_call 56; (with_reducible refine (nat_trim.calls k1 (fun k_ => some k_ = (.slice Ao7 x5_1.length co7 : Value).ownBlock) (.slice Ao7 x5_1.length co7) x5_1 t277 w _ ?side1 ?side2 A16.out).mono ?_); (case side1 => repeat (first | (with_reducible first | exact HB.out | apply below_alloc | apply pw_below_drewN | apply below_drew1) | exact HB.out)); (case side2 => exact Kd.R_tight rfl HO_5.out); rintro e w17 ⟨v278, rfl, ho0, hb, hkp⟩; have n0_ := Aside0.mk (Kd.R_mono (ok' := fun k_ => True) ho0 (fun k_ hk_ => trivial)); have n1_ := Aside0.mk (hb); clear HB; clear HO_5; have HO279 := n0_; have HB := n1_; clear n0_ n1_; (try clear hb); (try clear hkp); (try clear ho0))))
        go_ret
        exact ⟨_, by first | rfl | (simp [errW_none, errW_some] <;> rfl) | (simp [*, errW_none, errW_some] <;> rfl), by (with_reducible repeat (first | apply Kd.R_alloc | apply Kd.R_drewN | apply Kd.R_drew)); exact HO279.out, BL⟩

/-! ### nat_Sub: function 45 -/
set_option maxHeartbeats 8000000 in
set_option maxRecDepth 100000 in
theorem nat_Sub.calls (k : Nat) (A0 : Option Addr) (c0 : Nat) (l0 : List Int) (A1 : Option Addr) (c1 : Nat) (l1 : List Int) (r1 : List Int) (r2 : Int) (w : World) (hr0 : Kd.C (Kd.int .u32) w A0 l0.length l0) (hc0 : l0.length ≤ c0) (hr1 : Kd.C (Kd.int .u32) w A1 l1.length l1) (hc1 : l1.length ≤ c1) (h : nat_Sub.f k l0 l1 = some (r1, r2)) :
    Calls Tryd.prog 45 #[.slice A0 l0.length c0, .slice A1 l1.length c1] w fun e w' => ∃ v0_ : Value, e = .returned (.tuple #[v0_, .int .i64 r2]) ∧ Kd.R (Kd.int .u32) 34 w' w.heap.size (fun _ => True) v0_ r1 ∧ Below w.heap.size w w' := by
  have HR0 := Aside0.mk hr0
  have HC0 := Aside0.mk hc0
  clear hr0 hc0
  have HR1 := Aside0.mk hr1
  have HC1 := Aside0.mk hc1
  clear hr1 hc1
  have HB := Aside0.mk (Below.refl w.heap.size w)
  have H : ((nat_Right.f l0).bind fun t280 => (if t280 = true then ((nat_Right.f l1).bind fun t281 => (if t281 = true then ((nat_order.f k l0 l1).bind fun t282 => (if t282 < 0 then (some (([] : List Int), 1)) else ((nat_less.f k l0 l1).bind fun t283 => (some (t283, 0))))) else (some (([] : List Int), 1)))) else (some (([] : List Int), 1)))) = some (r1, r2) := h
  clear h
  obtain ⟨t280, A3, H⟩ := bind_p H
  by_cases c4 : t280 = true
  · subst c4
    have H1 : ((nat_Right.f l1).bind fun t281 => (if t281 = true then ((nat_order.f k l0 l1).bind fun t282 => (if t282 < 0 then (some (([] : List Int), 1)) else ((nat_less.f k l0 l1).bind fun t283 => (some (t283, 0))))) else (some (([] : List Int), 1)))) = some (r1, r2) := by rw [if_pos rfl] at H; exact H
    clear H
    have H := H1
    clear H1
    obtain ⟨t281, A5, H⟩ := bind_p H
    by_cases c6 : t281 = true
    · subst c6
      have H1 : ((nat_order.f k l0 l1).bind fun t282 => (if t282 < 0 then (some (([] : List Int), 1)) else ((nat_less.f k l0 l1).bind fun t283 => (some (t283, 0))))) = some (r1, r2) := by rw [if_pos rfl] at H; exact H
      clear H
      have H := H1
      clear H1
      obtain ⟨t282, A7, H⟩ := bind_p H
      by_cases c8 : t282 < 0
      · rw [if_pos c8] at H
        have c8b0 : decide (t282 < 0) = true := decide_eq_true c8
        clear c8
        simp only [Option.some.injEq, Prod.mk.injEq] at H
        obtain ⟨rfl, rfl⟩ := H
        go_enter Tryd.func45, Tryd.ntmps45
        go_wp2_with (first | ((with_reducible refine gate_callee (f := 33) rfl ?_); refine goesL_ (some 7) rfl rfl Tryd.func33 (by kernel_rfl) rfl #[.slice A0 l0.length c0] rfl EQ ?_; (with_reducible refine (nat_Right.calls _ _ l0 true _ ?side1 ?side2 A3.out).mono ?_); (case side1 => repeat (first | exact HR0.out | (with_reducible refine Kd.C_alloc ?_ _) | (with_reducible refine Kd.C_drewN ?_ _) | (with_reducible refine Kd.C_drew ?_))); (case side2 => exact HC0.out); rintro e w' ⟨rfl, ⟨nd, rfl⟩⟩; refine ⟨_, rfl, ?_⟩) | (go_at_call 33; (with_reducible refine (nat_Right.calls _ _ l1 true _ ?side1 ?side2 A5.out).mono ?_); (case side1 => repeat (first | exact HR1.out | (with_reducible refine Kd.C_alloc ?_ _) | (with_reducible refine Kd.C_drewN ?_ _) | (with_reducible refine Kd.C_drew ?_))); (case side2 => exact HC1.out); rintro e w' ⟨rfl, ⟨nd, rfl⟩⟩) | (go_at_call 63; (with_reducible refine (nat_order.calls k _ _ l0 _ _ l1 t282 _ ?side1 ?side2 ?side3 ?side4 A7.out).mono ?_); (case side1 => repeat (first | exact HR0.out | (with_reducible refine Kd.C_alloc ?_ _) | (with_reducible refine Kd.C_drewN ?_ _) | (with_reducible refine Kd.C_drew ?_))); (case side2 => exact HC0.out); (case side3 => repeat (first | exact HR1.out | (with_reducible refine Kd.C_alloc ?_ _) | (with_reducible refine Kd.C_drewN ?_ _) | (with_reducible refine Kd.C_drew ?_))); (case side4 => exact HC1.out); rintro e w9 ⟨rfl, hb⟩; have n0_ := Aside0.mk (below_step BL hb); clear HB; have HB := n0_; clear n0_; (try clear hb); (try clear hb2); (try clear hk); (try clear hi)))
        go_ret2
        exact ⟨_, by first | rfl | (simp [errW_none, errW_some] <;> rfl) | (simp [*, errW_none, errW_some] <;> rfl), by first | exact Kd.R_nil _ _ _ _ _ | exact Kd.N_nil _ _ _ _ _ | exact Kd.V_nil _ _ _ _ _ | exact Kd.Q_nil _ _ _ _ _ | exact Kd.S_nil _ _ _ _ _, BL⟩
      · rw [if_neg c8] at H
        have c8b0 : decide (t282 < 0) = false := decide_eq_false c8
        clear c8
        obtain ⟨t283, A10, H⟩ := bind_p H
        simp only [Option.some.injEq, Prod.mk.injEq] at H
        obtain ⟨rfl, rfl⟩ := H
        go_enter Tryd.func45, Tryd.ntmps45
        go_wp2_with (first | ((with_reducible refine gate_callee (f := 33) rfl ?_); refine goesL_ (some 7) rfl rfl Tryd.func33 (by kernel_rfl) rfl #[.slice A0 l0.length c0] rfl EQ ?_; (with_reducible refine (nat_Right.calls _ _ l0 true _ ?side1 ?side2 A3.out).mono ?_); (case side1 => repeat (first | exact HR0.out | (with_reducible refine Kd.C_alloc ?_ _) | (with_reducible refine Kd.C_drewN ?_ _) | (with_reducible refine Kd.C_drew ?_))); (case side2 => exact HC0.out); rintro e w' ⟨rfl, ⟨nd, rfl⟩⟩; refine ⟨_, rfl, ?_⟩) | (go_at_call 33; (with_reducible refine (nat_Right.calls _ _ l1 true _ ?side1 ?side2 A5.out).mono ?_); (case side1 => repeat (first | exact HR1.out | (with_reducible refine Kd.C_alloc ?_ _) | (with_reducible refine Kd.C_drewN ?_ _) | (with_reducible refine Kd.C_drew ?_))); (case side2 => exact HC1.out); rintro e w' ⟨rfl, ⟨nd, rfl⟩⟩) | (go_at_call 63; (with_reducible refine (nat_order.calls k _ _ l0 _ _ l1 t282 _ ?side1 ?side2 ?side3 ?side4 A7.out).mono ?_); (case side1 => repeat (first | exact HR0.out | (with_reducible refine Kd.C_alloc ?_ _) | (with_reducible refine Kd.C_drewN ?_ _) | (with_reducible refine Kd.C_drew ?_))); (case side2 => exact HC0.out); (case side3 => repeat (first | exact HR1.out | (with_reducible refine Kd.C_alloc ?_ _) | (with_reducible refine Kd.C_drewN ?_ _) | (with_reducible refine Kd.C_drew ?_))); (case side4 => exact HC1.out); rintro e w11 ⟨rfl, hb⟩; have n0_ := Aside0.mk (below_step BL hb); clear HB; have HB := n0_; clear n0_; (try clear hb); (try clear hb2); (try clear hk); (try clear hi)) | ((with_reducible refine gate_callee (f := 65) rfl ?_); refine goesL_ (some 22) rfl rfl Tryd.func65 (by kernel_rfl) rfl #[.slice A0 l0.length c0, .slice A1 l1.length c1] rfl EQ ?_; (with_reducible refine (nat_less.calls k _ _ l0 _ _ l1 t283 _ ?side1 ?side2 ?side3 ?side4 A10.out).mono ?_); (case side1 => exact CB HR0); (case side2 => exact HC0.out); (case side3 => exact CB HR1); (case side4 => exact HC1.out); rintro e w12 ⟨v284, rfl, ho0, hb⟩; refine ⟨_, rfl, ?_⟩; have n0_ := Aside0.mk (Kd.R_lower ho0 (below_size BL)); have n1_ := Aside0.mk (below_step BL hb); clear HB; have HO285 := n0_; have HB := n1_; clear n0_ n1_; (try clear hb); (try clear hb2); (try clear hk); (try clear hi); (try clear ho0)))
        go_ret2
        exact ⟨_, by first | rfl | (simp [errW_none, errW_some] <;> rfl) | (simp [*, errW_none, errW_some] <;> rfl), by (with_reducible repeat (first | apply Kd.R_alloc | apply Kd.R_drewN | apply Kd.R_drew)); exact HO285.out, BL⟩
    · replace c6 := Bool.eq_false_iff.mpr c6
      subst c6
      have H1 : (some (([] : List Int), 1)) = some (r1, r2) := by rw [if_neg (show ¬ (false = true) by decide)] at H; exact H
      clear H
      have H := H1
      clear H1
      simp only [Option.some.injEq, Prod.mk.injEq] at H
      obtain ⟨rfl, rfl⟩ := H
      go_enter Tryd.func45, Tryd.ntmps45
      go_wp2_with (first | ((with_reducible refine gate_callee (f := 33) rfl ?_); refine goesL_ (some 7) rfl rfl Tryd.func33 (by kernel_rfl) rfl #[.slice A0 l0.length c0] rfl EQ ?_; (with_reducible refine (nat_Right.calls _ _ l0 true _ ?side1 ?side2 A3.out).mono ?_); (case side1 => repeat (first | exact HR0.out | (with_reducible refine Kd.C_alloc ?_ _) | (with_reducible refine Kd.C_drewN ?_ _) | (with_reducible refine Kd.C_drew ?_))); (case side2 => exact HC0.out); rintro e w' ⟨rfl, ⟨nd, rfl⟩⟩; refine ⟨_, rfl, ?_⟩) | (go_at_call 33; (with_reducible refine (nat_Right.calls _ _ l1 false _ ?side1 ?side2 A5.out).mono ?_); (case side1 => repeat (first | exact HR1.out | (with_reducible refine Kd.C_alloc ?_ _) | (with_reducible refine Kd.C_drewN ?_ _) | (with_reducible refine Kd.C_drew ?_))); (case side2 => exact HC1.out); rintro e w' ⟨rfl, ⟨nd, rfl⟩⟩))
      go_ret2
      exact ⟨_, by first | rfl | (simp [errW_none, errW_some] <;> rfl) | (simp [*, errW_none, errW_some] <;> rfl), by first | exact Kd.R_nil _ _ _ _ _ | exact Kd.N_nil _ _ _ _ _ | exact Kd.V_nil _ _ _ _ _ | exact Kd.Q_nil _ _ _ _ _ | exact Kd.S_nil _ _ _ _ _, BL⟩
  · replace c4 := Bool.eq_false_iff.mpr c4
    subst c4
    have H1 : (some (([] : List Int), 1)) = some (r1, r2) := by rw [if_neg (show ¬ (false = true) by decide)] at H; exact H
    clear H
    have H := H1
    clear H1
    simp only [Option.some.injEq, Prod.mk.injEq] at H
    obtain ⟨rfl, rfl⟩ := H
    go_enter Tryd.func45, Tryd.ntmps45
    go_wp2_with (first | ((with_reducible refine gate_callee (f := 33) rfl ?_); refine goesL_ (some 7) rfl rfl Tryd.func33 (by kernel_rfl) rfl #[.slice A0 l0.length c0] rfl EQ ?_; (with_reducible refine (nat_Right.calls _ _ l0 false _ ?side1 ?side2 A3.out).mono ?_); (case side1 => repeat (first | exact HR0.out | (with_reducible refine Kd.C_alloc ?_ _) | (with_reducible refine Kd.C_drewN ?_ _) | (with_reducible refine Kd.C_drew ?_))); (case side2 => exact HC0.out); rintro e w' ⟨rfl, ⟨nd, rfl⟩⟩; refine ⟨_, rfl, ?_⟩))
    go_ret2
    exact ⟨_, by first | rfl | (simp [errW_none, errW_some] <;> rfl) | (simp [*, errW_none, errW_some] <;> rfl), by first | exact Kd.R_nil _ _ _ _ _ | exact Kd.N_nil _ _ _ _ _ | exact Kd.V_nil _ _ _ _ _ | exact Kd.Q_nil _ _ _ _ _ | exact Kd.S_nil _ _ _ _ _, BL⟩

/-! ### nat_digits: function 69 -/
theorem digs_cells (w : World) (T : Nat) (xs : List Int) (i : Nat) (hi : i < xs.length) : (w.alloc (.cells (xs.map (Value.int .u8)).toArray T)).cell? ⟨w.heap.size, 0 + i, none⟩ = some (.int .u8 (xs.getD i 0)) := by
  rw [World.cell?_alloc_new]
  simp [List.getD, hi]
theorem digs_conv (a0 : Int) (w : World) : (convert 81 9 (.slice (some ⟨w.heap.size, 0, none⟩) 9 9)).run Tryd.prog (w.alloc (.cells #[Value.int IntKind.u8 (48 + a0 / 10 / 10 / 10 / 10 / 10 / 10 / 10 / 10 % 10), Value.int IntKind.u8 (48 + a0 / 10 / 10 / 10 / 10 / 10 / 10 / 10 % 10), Value.int IntKind.u8 (48 + a0 / 10 / 10 / 10 / 10 / 10 / 10 % 10), Value.int IntKind.u8 (48 + a0 / 10 / 10 / 10 / 10 / 10 % 10), Value.int IntKind.u8 (48 + a0 / 10 / 10 / 10 / 10 % 10), Value.int IntKind.u8 (48 + a0 / 10 / 10 / 10 % 10), Value.int IntKind.u8 (48 + a0 / 10 / 10 % 10), Value.int IntKind.u8 (48 + a0 / 10 % 10), Value.int IntKind.u8 (48 + a0 % 10)] 83)) = .ok (.string (strOfNums (digs a0))) (w.alloc (.cells ((digs a0).map (Value.int .u8)).toArray 83)) :=
  run_convert_bytes_arg _ 81 5 Tryd.underlying81 Tryd.underlying5 w.heap.size 0 9 9 (digs a0) rfl (fun i hi => digs_cells w 83 (digs a0) i hi) 9 Tryd.underlying9
set_option maxHeartbeats 1000000 in
set_option maxRecDepth 100000 in
theorem nat_digits.calls (a0 : Int) (r : ByteArray) (w : World) (h : nat_digits.f a0 = some r) :
    Calls Tryd.prog 69 #[.int .u32 a0] w fun e w' => e = .returned (.string r) ∧ Below w.heap.size w w' := by
  unfold nat_digits.f at h
  by_cases hb : 0 ≤ a0 ∧ a0 < 4294967296
  · rw [if_pos hb] at h
    obtain ⟨h0, h1⟩ := hb
    have hr := Aside0.mk (Option.some.inj h)
    clear h
    have hcv := Aside0.mk (digs_conv a0 w)
    go_enter Tryd.func69, Tryd.ntmps69
    go_wp2
    refine wp_loop_rounds 10 ?_
    repeat any_goals (rw [rounds_succ]; go_wp2)
    rw [hcv.out, hr.out]
    go_wp2
    go_ret
    exact ⟨rfl, (Below.refl _ _).alloc (Nat.le_refl _) _⟩
  · rw [if_neg hb] at h
    cases h


/-! ### strings_TrimLeft: function 70 -/
theorem strings_TrimLeft.calls (a0 a1 r : ByteArray) (w : World) (h : strings_TrimLeft.f a0 a1 = some r) :
    Calls Tryd.prog 70 #[.string a0, .string a1] w fun e w' => e = .returned (.string r) ∧ Below w.heap.size w w' := by
  unfold strings_TrimLeft.f at h
  by_cases hb : a0.size ≤ 9223372036854775807 ∧ a1.size < 4294967281 ∧ a1.data.toList.all (fun b => decide (b.toNat < 128)) = true
  · rw [if_pos hb] at h
    obtain rfl := Option.some.inj h
    exact Any.strings_TrimLeft_laid Tryd.lays161 (by kernel_rfl) a0 a1 w hb.2.1 (ascii_of_all hb.2.2)
  · rw [if_neg hb] at h
    cases h


/-! ### nat_Text: function 49 -/
set_option maxHeartbeats 8000000 in
set_option maxRecDepth 100000 in
theorem nat_Text.calls (k : Nat) (P0_ : Nat → Prop) (A0 : Option Addr) (c0 : Nat) (l0 : List Int) (r : ByteArray) (w : World) (hs0 : Kd.V (Kd.int .u32) 34 w w.heap.size (fun k_ => P0_ k_) (.slice A0 l0.length c0) l0) (h : nat_Text.f k l0 = some r) :
    Calls Tryd.prog 49 #[.slice A0 l0.length c0] w fun e w' => e = .returned (.string r) ∧ Below w.heap.size w w' := by
  have HO0 := Aside0.mk (show Kd.V (Kd.int .u32) 34 w w.heap.size (fun k_ => (P0_ k_ ∨ w.heap.size ≤ k_)) (.slice A0 l0.length c0) l0 from Kd.V_mono hs0 (fun k_ hk => .inl hk))
  have HB := Aside0.mk (Below.refl w.heap.size w)
  have H : ((nat_Right.f l0).bind fun t286 => (if t286 = true then (nat_Text.l0 k l0 (⟨#[]⟩ : ByteArray)) else (some (⟨#[]⟩ : ByteArray)))) = some r := h
  clear h
  obtain ⟨t286, A2, H⟩ := bind_p H
  by_cases c3 : t286 = true
  · subst c3
    have H1 : (nat_Text.l0 k l0 (⟨#[]⟩ : ByteArray)) = some r := by rw [if_pos rfl] at H; exact H
    clear H
    have H := H1
    clear H1
    have H' := Aside0.mk H
    clear H
    go_enter Tryd.func49, Tryd.ntmps49
    go_wp2_with (first | ((with_reducible refine gate_callee (f := 33) rfl ?_); refine goesL_ (some 7) rfl rfl Tryd.func33 (by kernel_rfl) rfl #[.slice A0 l0.length c0] rfl EQ ?_; (with_reducible refine (nat_Right.calls _ _ l0 true _ ?side1 ?side2 A2.out).mono ?_); (case side1 => repeat (first | exact (Kd.V_reads' HO0.out).2.2 | (with_reducible refine Kd.C_alloc ?_ _) | (with_reducible refine Kd.C_drewN ?_ _) | (with_reducible refine Kd.C_drew ?_))); (case side2 => exact (Kd.V_reads' HO0.out).2.1); rintro e w' ⟨rfl, ⟨nd, rfl⟩⟩; refine ⟨_, rfl, ?_⟩))
    go_loopg [0, 3] k (fun kq v0 v3 w' => ∃ (x0_1 : List Int) (x3_1 : ByteArray), v3 = .string x3_1 ∧ Aside0 (nat_Text.l0 kq x0_1 x3_1 = some r) ∧ Aside0 (kq ≤ k) ∧ Aside0 (Kd.V (Kd.int .u32) 34 w' w.heap.size (fun k_ => (P0_ k_ ∨ w.heap.size ≤ k_)) v0 x0_1) ∧ Aside0 (Below w.heap.size w w'))
    case atStart => exact ⟨(l0), ((⟨#[]⟩ : ByteArray)), (by first | rfl | (simp; done) | (simp [*]; done) | (simp; exact isEmpty_bne _)), H', ⟨Nat.le_refl _⟩, ⟨by (with_reducible repeat (first | apply Kd.V_alloc | apply Kd.V_drewN | apply Kd.V_drew)); exact HO0.out⟩, ⟨BL⟩⟩
    case round =>
      clear H'
      try clear p2
      try clear c3
      obtain ⟨x0_1, x3_1, rfl, HA, HK1, HO_0, HB⟩ := hrel
      cases gk with
      | zero => exact absurd HA.out (by simp [nat_Text.l0])
      | succ k1 =>
        have H := HA.out
        clear HA
        simp only [nat_Text.l0] at H
        by_cases c4 : (x0_1.length : Int) > 0
        · rw [if_pos c4] at H
          have c4b0 : decide (0 < (x0_1.length : Int)) = true := decide_eq_true c4
          have c4b1 : decide (0 < x0_1.length) = true := decide_eq_true (by omega)
          clear c4
          obtain ⟨⟨t287, t288⟩, A5, H⟩ := bind_p H
          dsimp only at H
          obtain ⟨t291, A6, H⟩ := bind_p H
          obtain ⟨c7, H⟩ := ite_p H
          have c7b0 := eq_true c7
          have c7b1 : decide (t291.size + x3_1.size ≤ 9223372036854775807) = true := decide_eq_true c7
          try have c7b2 : (9223372036854775807 < t291.size + x3_1.size) = False := eq_false (Nat.not_lt.2 c7)
          have H' := Aside0.mk H
          clear H
          obtain ⟨Ao8, co8, eo8⟩ := Kd.V_slice HO_0.out
          subst eo8
          go_wp2_with (first | ((with_reducible refine gate_callee (f := 68) rfl ?_); refine goesL_ (some 14) rfl rfl Tryd.func68 (by kernel_rfl) rfl #[.slice Ao8 x0_1.length co8, .int .u32 1000000000] rfl EQ ?_; (with_reducible refine (nat_short.calls k1 _ _ x0_1 1000000000 t287 t288 _ ?side1 ?side2 A5.out).mono ?_); (case side1 => repeat (first | exact (Kd.V_reads' HO_0.out).2.2 | (with_reducible refine Kd.C_alloc ?_ _) | (with_reducible refine Kd.C_drewN ?_ _) | (with_reducible refine Kd.C_drew ?_))); (case side2 => exact (Kd.V_reads' HO_0.out).2.1); rintro e w9 ⟨v289, rfl, ho0, hb⟩; refine ⟨_, rfl, ?_⟩; have n0_ := Aside0.mk (Kd.V_elder' (by (with_reducible repeat (first | apply Kd.V_alloc | apply Kd.V_drewN | apply Kd.V_drew)); exact HO_0.out) (Kd.R_base ho0) hb); have n1_ := Aside0.mk (Kd.R_lower (Kd.R_newM (M := fun k_ => (w.heap.size ≤ k_)) ho0 (below_size BL) (fun k_ h_ => h_)) (below_size BL)); have n2_ := Aside0.mk (below_step BL hb); clear HO_0; clear HB; have HO_0 := n0_; have HO290 := n1_; have HB := n2_; clear n0_ n1_ n2_; (try clear hb); (try clear hb2); (try clear hk); (try clear hi); (try clear ho0)) | ((with_reducible refine gate_callee (f := 69) rfl ?_); refine goesL_ (some 18) rfl rfl Tryd.func69 (by kernel_rfl) rfl #[.int .u32 t288] rfl EQ ?_; (with_reducible refine (nat_digits.calls t288 t291 _ A6.out).mono ?_); rintro e w10 ⟨rfl, hb⟩; refine ⟨_, rfl, ?_⟩; have n0_ := Aside0.mk (Kd.V_below (by (with_reducible repeat (first | apply Kd.V_alloc | apply Kd.V_drewN | apply Kd.V_drew)); exact HO_0.out) hb); have n1_ := Aside0.mk (Kd.R_below (RL HO290) hb); have n2_ := Aside0.mk (below_step BL hb); clear HO_0; clear HO290; clear HB; have HO_0 := n0_; have HO290 := n1_; have HB := n2_; clear n0_ n1_ n2_; (try clear hb); (try clear hb2); (try clear hk); (try clear hi)))
          go_roundg k1
          case measure => have := HK1.out; omega
          case rel => exact ⟨(t287), (t291 ++ x3_1), (by first | rfl | (simp; done) | (simp [*]; done) | (simp; exact isEmpty_bne _)), H', ⟨by have := HK1.out; omega⟩, ⟨Kd.V_mono (Kd.R_V (by (with_reducible repeat (first | apply Kd.R_alloc | apply Kd.R_drewN | apply Kd.R_drew)); exact Kd.R_mono HO290.out (fun _ hk => hk.1))) (fun k_ hk => by first | exact ⟨(.inr (hk.1)), hk.2⟩ | exact (.inr (hk)))⟩, ⟨BL⟩⟩
        · rw [if_neg c4] at H
          have c4b0 : decide (0 < (x0_1.length : Int)) = false := decide_eq_false c4
          have c4b1 : decide (0 < x0_1.length) = false := decide_eq_false (by omega)
          clear c4
          obtain ⟨t292, A11, H⟩ := bind_p H
          by_cases c12 : t292.toList = ([] : List UInt8)
          · rw [if_pos c12] at H
            have c12b0 : (t292.toList == ([] : List UInt8)) = true := beq_iff_eq.mpr c12
            have c12b1 : (t292.toList != ([] : List UInt8)) = false := bne_eq_false_iff_eq.mpr c12
            clear c12
            obtain rfl := Option.some.inj H
            obtain ⟨Ao13, co13, eo13⟩ := Kd.V_slice HO_0.out
            subst eo13
            go_wp2_with (first | ((with_reducible refine gate_callee (f := 70) rfl ?_); refine goesL_ (some 23) rfl rfl Tryd.func70 (by kernel_rfl) rfl #[.string x3_1, .string (⟨#[48]⟩ : ByteArray)] rfl EQ ?_; (with_reducible refine (strings_TrimLeft.calls x3_1 (⟨#[48]⟩ : ByteArray) t292 _ A11.out).mono ?_); rintro e w14 ⟨rfl, hb⟩; refine ⟨_, rfl, ?_⟩; have n0_ := Aside0.mk (Kd.V_below (by (with_reducible repeat (first | apply Kd.V_alloc | apply Kd.V_drewN | apply Kd.V_drew)); exact HO_0.out) hb); have n1_ := Aside0.mk (below_step BL hb); clear HO_0; clear HB; have HO_0 := n0_; have HB := n1_; clear n0_ n1_; (try clear hb); (try clear hb2); (try clear hk); (try clear hi)))
            go_ret
            exact ⟨by first | rfl | (simp [errW_none, errW_some] <;> rfl) | (simp [*, errW_none, errW_some] <;> rfl), BL⟩
          · rw [if_neg c12] at H
            have c12b0 : (t292.toList == ([] : List UInt8)) = false := beq_eq_false_iff_ne.mpr c12
            have c12b1 : (t292.toList != ([] : List UInt8)) = true := bne_iff_ne.mpr c12
            obtain rfl := Option.some.inj H
            obtain ⟨Ao15, co15, eo15⟩ := Kd.V_slice HO_0.out
            subst eo15
            go_wp2_with (first | ((with_reducible refine gate_callee (f := 70) rfl ?_); refine goesL_ (some 23) rfl rfl Tryd.func70 (by kernel_rfl) rfl #[.string x3_1, .string (⟨#[48]⟩ : ByteArray)] rfl EQ ?_; (with_reducible refine (strings_TrimLeft.calls x3_1 (⟨#[48]⟩ : ByteArray) t292 _ A11.out).mono ?_); rintro e w16 ⟨rfl, hb⟩; refine ⟨_, rfl, ?_⟩; have n0_ := Aside0.mk (Kd.V_below (by (with_reducible repeat (first | apply Kd.V_alloc | apply Kd.V_drewN | apply Kd.V_drew)); exact HO_0.out) hb); have n1_ := Aside0.mk (below_step BL hb); clear HO_0; clear HB; have HO_0 := n0_; have HB := n1_; clear n0_ n1_; (try clear hb); (try clear hb2); (try clear hk); (try clear hi)))
            go_ret
            exact ⟨by first | rfl | (simp [errW_none, errW_some] <;> rfl) | (simp [*, errW_none, errW_some] <;> rfl), BL⟩
  · replace c3 := Bool.eq_false_iff.mpr c3
    subst c3
    have H1 : (some (⟨#[]⟩ : ByteArray)) = some r := by rw [if_neg (show ¬ (false = true) by decide)] at H; exact H
    clear H
    have H := H1
    clear H1
    obtain rfl := Option.some.inj H
    go_enter Tryd.func49, Tryd.ntmps49
    go_wp2_with (first | ((with_reducible refine gate_callee (f := 33) rfl ?_); refine goesL_ (some 7) rfl rfl Tryd.func33 (by kernel_rfl) rfl #[.slice A0 l0.length c0] rfl EQ ?_; (with_reducible refine (nat_Right.calls _ _ l0 false _ ?side1 ?side2 A2.out).mono ?_); (case side1 => repeat (first | exact (Kd.V_reads' HO0.out).2.2 | (with_reducible refine Kd.C_alloc ?_ _) | (with_reducible refine Kd.C_drewN ?_ _) | (with_reducible refine Kd.C_drew ?_))); (case side2 => exact (Kd.V_reads' HO0.out).2.1); rintro e w' ⟨rfl, ⟨nd, rfl⟩⟩; refine ⟨_, rfl, ?_⟩))
    go_ret
    exact ⟨by first | rfl | (simp [errW_none, errW_some] <;> rfl) | (simp [*, errW_none, errW_some] <;> rfl), BL⟩

/-! ### samphireref02_Same: function 13 -/
set_option maxHeartbeats 8000000 in
set_option maxRecDepth 100000 in
theorem samphireref02_Same.calls (k : Nat) (A0 : Option Addr) (c0 : Nat) (l0 : List Int) (A1 : Option Addr) (c1 : Nat) (l1 : List Int) (r : Bool) (w : World) (hr0 : Kd.C (Kd.int .u32) w A0 l0.length l0) (hc0 : l0.length ≤ c0) (hr1 : Kd.C (Kd.int .u32) w A1 l1.length l1) (hc1 : l1.length ≤ c1) (h : samphireref02_Same.f k l0 l1 = some r) :
    Calls Tryd.prog 13 #[.slice A0 l0.length c0, .slice A1 l1.length c1] w fun e w' => e = .returned (.bool r) ∧ Drawn0 w w' := by
  have HR0 := Aside0.mk hr0
  have HC0 := Aside0.mk hc0
  clear hr0 hc0
  have HR1 := Aside0.mk hr1
  have HC1 := Aside0.mk hc1
  clear hr1 hc1
  have H : (if (l0.length : Int) = (l1.length : Int) then (samphireref02_Same.l0 k l0 l1 0) else (some false)) = some r := h
  clear h
  by_cases c3 : (l0.length : Int) = (l1.length : Int)
  · rw [if_pos c3] at H
    have c3b0 : ((l0.length : Int) == (l1.length : Int)) = true := beq_iff_eq.mpr c3
    have c3b1 : ((l0.length : Int) != (l1.length : Int)) = false := bne_eq_false_iff_eq.mpr c3
    have c3b2 : (l0.length == l1.length) = true := by first | simpa using c3 | (simp at c3 ⊢; omega)
    clear c3
    have H' := Aside0.mk H
    clear H
    go_enter Tryd.func13, Tryd.ntmps13
    go_wp2
    repeat (go_quiet (fail); try go_wp2)
    go_loopg [5] k (fun kq v5 w' => ∃ (x5_1 : Int), v5 = .int .i64 x5_1 ∧ Aside0 (samphireref02_Same.l0 kq l0 l1 x5_1 = some r) ∧ Aside0 (kq ≤ k) ∧ Drawn0 w w')
    case atStart => exact ⟨(0), (by first | rfl | (simp; done) | (simp [*]; done) | (simp; exact isEmpty_bne _)), H', ⟨Nat.le_refl _⟩, by repeat (first | exact Drawn0.refl _ | apply Drawn0.step)⟩
    case round =>
      clear H'
      try clear c1
      try clear p2
      try clear c3
      try clear c3b0
      try clear c3b1
      try clear c3b2
      obtain ⟨x5_1, rfl, HA, HK1, ⟨m1, rfl⟩⟩ := hrel
      cases gk with
      | zero => exact absurd HA.out (by simp [samphireref02_Same.l0])
      | succ k1 =>
        have H := HA.out
        clear HA
        simp only [samphireref02_Same.l0] at H
        by_cases c4 : x5_1 < (l0.length : Int)
        · rw [if_pos c4] at H
          have c4b0 : decide (x5_1 < (l0.length : Int)) = true := decide_eq_true c4
          clear c4
          obtain ⟨c5, H⟩ := ite_p H
          have c5b0 : decide (0 ≤ x5_1) = true := decide_eq_true c5
          clear c5
          obtain ⟨c6, H⟩ := ite_p H
          have c6b0 : decide (x5_1 < (l1.length : Int)) = true := decide_eq_true c6
          clear c6
          by_cases c7 : (rd l0 x5_1) = (rd l1 x5_1)
          · rw [if_pos c7] at H
            have c7b0 : ((rd l0 x5_1) == (rd l1 x5_1)) = true := beq_iff_eq.mpr c7
            have c7b1 : ((rd l0 x5_1) != (rd l1 x5_1)) = false := bne_eq_false_iff_eq.mpr c7
            clear c7
            have H' := Aside0.mk H
            clear H
            have p293 : 0 ≤ (x5_1 : Int) := DA
            have q293 : x5_1 < (l0.length : Int) := DA
            obtain ⟨ad293, e293, hx293_0⟩ := Kd.at_int HR0.out x5_1 p293 q293
            cases e293
            replace p293 := eq_true p293
            replace q293 := eq_true q293
            have p294 : 0 ≤ (x5_1 : Int) := DA
            have q294 : x5_1 < (l1.length : Int) := DA
            obtain ⟨ad294, e294, hx294_0⟩ := Kd.at_int HR1.out x5_1 p294 q294
            cases e294
            replace p294 := eq_true p294
            replace q294 := eq_true q294
            go_wp2
            repeat (go_quiet (fail); try go_wp2)
            go_roundg k1
            case measure => have := HK1.out; omega
            case rel => exact ⟨(wrap64 (x5_1 + 1)), (by first | rfl | (simp; done) | (simp [*]; done) | (simp; exact isEmpty_bne _)), H', ⟨by have := HK1.out; omega⟩, by repeat (first | exact Drawn0.refl _ | apply Drawn0.step)⟩
          · rw [if_neg c7] at H
            have c7b0 : ((rd l0 x5_1) == (rd l1 x5_1)) = false := beq_eq_false_iff_ne.mpr c7
            have c7b1 : ((rd l0 x5_1) != (rd l1 x5_1)) = true := bne_iff_ne.mpr c7
            obtain rfl := Option.some.inj H
            have p293 : 0 ≤ (x5_1 : Int) := DA
            have q293 : x5_1 < (l0.length : Int) := DA
            obtain ⟨ad293, e293, hx293_0⟩ := Kd.at_int HR0.out x5_1 p293 q293
            cases e293
            replace p293 := eq_true p293
            replace q293 := eq_true q293
            have p294 : 0 ≤ (x5_1 : Int) := DA
            have q294 : x5_1 < (l1.length : Int) := DA
            obtain ⟨ad294, e294, hx294_0⟩ := Kd.at_int HR1.out x5_1 p294 q294
            cases e294
            replace p294 := eq_true p294
            replace q294 := eq_true q294
            go_wp2
            repeat (go_quiet (fail); try go_wp2)
            go_ret
            exact ⟨by first | rfl | (simp; done) | (simp [*]; done) | (simp; exact isEmpty_bne _), by repeat (first | exact Drawn0.refl _ | apply Drawn0.step)⟩
        · rw [if_neg c4] at H
          have c4b0 : decide (x5_1 < (l0.length : Int)) = false := decide_eq_false c4
          clear c4
          obtain rfl := Option.some.inj H
          go_wp2
          repeat (go_quiet (fail); try go_wp2)
          go_ret
          exact ⟨by first | rfl | (simp; done) | (simp [*]; done) | (simp; exact isEmpty_bne _), by repeat (first | exact Drawn0.refl _ | apply Drawn0.step)⟩
  · rw [if_neg c3] at H
    have c3b0 : ((l0.length : Int) == (l1.length : Int)) = false := beq_eq_false_iff_ne.mpr c3
    have c3b1 : ((l0.length : Int) != (l1.length : Int)) = true := bne_iff_ne.mpr c3
    have c3b2 : (l0.length == l1.length) = false := by first | simpa using c3 | (simp at c3 ⊢; omega)
    obtain rfl := Option.some.inj H
    go_enter Tryd.func13, Tryd.ntmps13
    go_wp2
    repeat (go_quiet (fail); try go_wp2)
    go_ret
    exact ⟨by first | rfl | (simp; done) | (simp [*]; done) | (simp; exact isEmpty_bne _), by repeat (first | exact Drawn0.refl _ | apply Drawn0.step)⟩

/-! ### samphireref02_Whole: function 37 -/
set_option maxHeartbeats 8000000 in
set_option maxRecDepth 100000 in
theorem samphireref02_Whole.calls (k : Nat) (A0 : Option Addr) (c0 : Nat) (l0 : List Int) (r : List Int) (w : World) (hr0 : Kd.C (Kd.int .u64) w A0 l0.length l0) (hc0 : l0.length ≤ c0) (h : samphireref02_Whole.f k l0 = some r) :
    Calls Tryd.prog 37 #[.slice A0 l0.length c0] w fun e w' => ∃ v0_ : Value, e = .returned (v0_) ∧ Kd.R (Kd.int .u32) 34 w' w.heap.size (fun _ => True) v0_ r ∧ Below w.heap.size w w' := by
  have HR0 := Aside0.mk hr0
  have HC0 := Aside0.mk hc0
  clear hr0 hc0
  have HB := Aside0.mk (Below.refl w.heap.size w)
  have H : (samphireref02_Whole.l0 k l0 ([] : List Int) 0) = some r := h
  clear h
  have H' := Aside0.mk H
  clear H
  go_enter Tryd.func37, Tryd.ntmps37
  go_wp2
  go_loopg [3, 4] k (fun kq v3 v4 w' => ∃ (x3_1 : List Int) (x4_1 : Int), v4 = .int .i64 x4_1 ∧ Aside0 (samphireref02_Whole.l0 kq l0 x3_1 x4_1 = some r) ∧ Aside0 (kq ≤ k) ∧ Aside0 (Kd.R (Kd.int .u32) 34 w' w.heap.size (fun _ => True) v3 x3_1) ∧ Aside0 (Below w.heap.size w w'))
  case atStart => exact ⟨(([] : List Int)), (0), (by first | rfl | (simp; done) | (simp [*]; done) | (simp; exact isEmpty_bne _)), H', ⟨Nat.le_refl _⟩, ⟨by first | exact Kd.R_nil _ _ _ _ _ | exact Kd.N_nil _ _ _ _ _ | exact Kd.V_nil _ _ _ _ _ | exact Kd.Q_nil _ _ _ _ _ | exact Kd.S_nil _ _ _ _ _⟩, ⟨BL⟩⟩
  case round =>
    clear H'
    obtain ⟨x3_1, x4_1, rfl, HA, HK1, HO_3, HB⟩ := hrel
    cases gk with
    | zero => exact absurd HA.out (by simp [samphireref02_Whole.l0])
    | succ k1 =>
      have H := HA.out
      clear HA
      simp only [samphireref02_Whole.l0] at H
      by_cases c2 : x4_1 < (l0.length : Int)
      · rw [if_pos c2] at H
        have c2b0 : decide (x4_1 < (l0.length : Int)) = true := decide_eq_true c2
        clear c2
        obtain ⟨c3, H⟩ := ite_p H
        have c3b0 : decide (0 ≤ x4_1) = true := decide_eq_true c3
        clear c3
        by_cases c4 : (wrap64 (x4_1 + 1)) < (l0.length : Int)
        · rw [if_pos c4] at H
          have c4b0 : decide ((wrap64 (x4_1 + 1)) < (l0.length : Int)) = true := decide_eq_true c4
          clear c4
          obtain ⟨ji5, hji5⟩ := let_j (wrap64 (x4_1 + 1))
          (first | rw [hji5] at H | simp only [hji5] at H ⊢)
          (try rw [hji5] at c4b0)
          have hji5w : (IntKind.i64.wrap (x4_1 + 1)) = ji5 := (i64_w _).trans hji5
          obtain ⟨c6, H⟩ := ite_p H
          have c6b0 : decide (0 ≤ (ji5)) = true := decide_eq_true c6
          clear c6
          obtain ⟨c7, H⟩ := ite_p H
          have LMc7 := Aside0.mk c7
          clear c7
          obtain ⟨y297, Ny297⟩ := let_p (x3_1 ++ [(IntKind.u64.wrap ((rd l0 x4_1) + (IntKind.u64.wrap (65536 * (rd l0 (ji5)))))) % 4294967296] : List Int)
          (first | rw [← Ny297.out] at H | simp only [← Ny297.out] at H)
          have H' := Aside0.mk H
          clear H
          have p295 : 0 ≤ (x4_1 : Int) := DA
          have q295 : x4_1 < (l0.length : Int) := DA
          obtain ⟨ad295, e295, hx295_0⟩ := Kd.at_int HR0.out x4_1 p295 q295
          cases e295
          replace hx295_0 := (HB.out.cell (World.block_lt_of_cell? w _ hx295_0)).trans hx295_0
          replace p295 := eq_true p295
          replace q295 := eq_true q295
          have p296 : 0 ≤ ((ji5) : Int) := DA
          have q296 : (ji5) < (l0.length : Int) := DA
          obtain ⟨ad296, e296, hx296_0⟩ := Kd.at_int HR0.out (ji5) p296 q296
          obtain rfl : ad295 = ad296 := (by injection e296)
          replace hx296_0 := (HB.out.cell (World.block_lt_of_cell? w _ hx296_0)).trans hx296_0
          replace p296 := eq_true p296
          replace q296 := eq_true q296
          go_wp2_with (first | ((with_reducible refine gate_builtin (b := .append) (xs := #[.tmp 29, .tmp 32]) rfl ?_); (try (refine gate_guard (by rfl) ?_; dsimp only)); at_builtin; refine Kd.R_append (Kd.int .u32) (w0 := w) w.heap.size rfl (.tmp 29) (.tmp 32) 23 34 (.int .u32 0) 4 rfl Tryd.underlying23 info34 rfl (by decide) (by omega) u3 x3_1 ((IntKind.u64.wrap ((rd l0 x4_1) + (IntKind.u64.wrap (65536 * (rd l0 (ji5)))))) % 4294967296) [.int .u32 ((IntKind.u64.wrap ((rd l0 x4_1) + (IntKind.u64.wrap (65536 * (rd l0 (ji5)))))) % 4294967296)] (fun _ => True) (fun _ => False) rfl rfl ?aP (fun _ hk => hk.elim) ?aF ?aO ?aB ?aS ?aL ?_; (case aP => exact rfl); (case aB => exact BL); (case aF => exact (fun _ _ => trivial)); (case aO => exact (RL HO_3)); (case aS => exact (below_size BL)); (case aL => have := LMc7.out; omega); intro v298 w8 ho hb hg hat; rw [← Ny297.out] at ho; have n0_ := Aside0.mk (hb); have n1_ := Aside0.mk (ho); clear HB; clear HO_3; have HB := n0_; have HO299 := n1_; clear n0_ n1_; clear ho hb hg hat))
          go_roundg k1
          case measure => have := HK1.out; omega
          case rel => exact ⟨(y297), (wrap64 (x4_1 + 2)), (by first | rfl | (simp; done) | (simp [*]; done) | (simp; exact isEmpty_bne _)), H', ⟨by have := HK1.out; omega⟩, ⟨by (with_reducible repeat (first | apply Kd.R_alloc | apply Kd.R_drewN | apply Kd.R_drew)); exact HO299.out⟩, ⟨BL⟩⟩
        · rw [if_neg c4] at H
          have c4b0 : decide ((wrap64 (x4_1 + 1)) < (l0.length : Int)) = false := decide_eq_false c4
          clear c4
          obtain ⟨c9, H⟩ := ite_p H
          have LMc9 := Aside0.mk c9
          clear c9
          obtain ⟨y300, Ny300⟩ := let_p (x3_1 ++ [(rd l0 x4_1) % 4294967296] : List Int)
          (first | rw [← Ny300.out] at H | simp only [← Ny300.out] at H)
          have H' := Aside0.mk H
          clear H
          have p295 : 0 ≤ (x4_1 : Int) := DA
          have q295 : x4_1 < (l0.length : Int) := DA
          obtain ⟨ad295, e295, hx295_0⟩ := Kd.at_int HR0.out x4_1 p295 q295
          cases e295
          replace hx295_0 := (HB.out.cell (World.block_lt_of_cell? w _ hx295_0)).trans hx295_0
          replace p295 := eq_true p295
          replace q295 := eq_true q295
          go_wp2_with (first | ((with_reducible refine gate_builtin (b := .append) (xs := #[.tmp 29, .tmp 32]) rfl ?_); (try (refine gate_guard (by rfl) ?_; dsimp only)); at_builtin; refine Kd.R_append (Kd.int .u32) (w0 := w) w.heap.size rfl (.tmp 29) (.tmp 32) 23 34 (.int .u32 0) 4 rfl Tryd.underlying23 info34 rfl (by decide) (by omega) u3 x3_1 ((rd l0 x4_1) % 4294967296) [.int .u32 ((rd l0 x4_1) % 4294967296)] (fun _ => True) (fun _ => False) rfl rfl ?aP (fun _ hk => hk.elim) ?aF ?aO ?aB ?aS ?aL ?_; (case aP => exact rfl); (case aB => exact BL); (case aF => exact (fun _ _ => trivial)); (case aO => exact (RL HO_3)); (case aS => exact (below_size BL)); (case aL => have := LMc9.out; omega); intro v301 w10 ho hb hg hat; rw [← Ny300.out] at ho; have n0_ := Aside0.mk (hb); have n1_ := Aside0.mk (ho); clear HB; clear HO_3; have HB := n0_; have HO302 := n1_; clear n0_ n1_; clear ho hb hg hat))
          go_roundg k1
          case measure => have := HK1.out; omega
          case rel => exact ⟨(y300), (wrap64 (x4_1 + 2)), (by first | rfl | (simp; done) | (simp [*]; done) | (simp; exact isEmpty_bne _)), H', ⟨by have := HK1.out; omega⟩, ⟨by (with_reducible repeat (first | apply Kd.R_alloc | apply Kd.R_drewN | apply Kd.R_drew)); exact HO302.out⟩, ⟨BL⟩⟩
      · rw [if_neg c2] at H
        have c2b0 : decide (x4_1 < (l0.length : Int)) = false := decide_eq_false c2
        clear c2
        have H' := Aside0.mk H
        clear H
        go_wp2
        go_loopg [3] k1 (fun kq v3 w' => ∃ (x3_2 : List Int), Aside0 (samphireref02_Whole.l1 kq x3_2 = some r) ∧ Aside0 (kq ≤ k1) ∧ Aside0 (Kd.R (Kd.int .u32) 34 w' w.heap.size (fun _ => True) v3 x3_2) ∧ Aside0 (Below w.heap.size w w'))
        case atStart => exact ⟨(x3_1), H', ⟨Nat.le_refl _⟩, ⟨by (with_reducible repeat (first | apply Kd.R_alloc | apply Kd.R_drewN | apply Kd.R_drew)); exact HO_3.out⟩, ⟨BL⟩⟩
        case round =>
          clear H'
          try clear c2
          try clear c2b0
          try clear p2
          try clear q2
          try clear hx2
          try clear c3
          try clear c3b0
          try clear c4
          try clear c4b0
          try clear c6
          try clear c6b0
          try clear p6
          try clear c7
          try clear c9
          try clear hx295_0
          try clear hx296_0
          try clear p295
          try clear p296
          try clear q295
          try clear q296
          obtain ⟨x3_2, HA, HK2, HO_3, HB⟩ := hrel
          cases gk with
          | zero => exact absurd HA.out (by simp [samphireref02_Whole.l1])
          | succ k2 =>
            have H := HA.out
            clear HA
            simp only [samphireref02_Whole.l1] at H
            by_cases c11 : (x3_2.length : Int) > 0
            · rw [if_pos c11] at H
              have c11b0 : decide (0 < (x3_2.length : Int)) = true := decide_eq_true c11
              have c11b1 : decide (0 < x3_2.length) = true := decide_eq_true (by omega)
              clear c11
              obtain ⟨ji12, hji12⟩ := let_j (wrap64 ((x3_2.length : Int) - 1))
              (first | rw [hji12] at H | simp only [hji12] at H ⊢)
              have hji12w : (IntKind.i64.wrap ((x3_2.length : Int) - 1)) = ji12 := (i64_w _).trans hji12
              obtain ⟨c13, H⟩ := ite_p H
              have c13b0 : decide (0 ≤ (ji12)) = true := decide_eq_true c13
              clear c13
              obtain ⟨c14, H⟩ := ite_p H
              have c14b0 : decide ((ji12) < (x3_2.length : Int)) = true := decide_eq_true c14
              clear c14
              by_cases c15 : (rd x3_2 (ji12)) = 0
              · rw [if_pos c15] at H
                have c15b0 : ((rd x3_2 (ji12)) == 0) = true := beq_iff_eq.mpr c15
                have c15b1 : ((rd x3_2 (ji12)) != 0) = false := bne_eq_false_iff_eq.mpr c15
                clear c15
                obtain ⟨c16, H⟩ := ite_p H
                have c16b0 := eq_true c16
                have c16b1 : decide ((ji12) ≤ (x3_2.length : Int)) = true := decide_eq_true c16
                clear c16
                obtain ⟨y304, Ny304⟩ := let_p (x3_2.take ((ji12) : Int).toNat : List Int)
                (first | rw [← Ny304.out] at H | simp only [← Ny304.out] at H)
                have H' := Aside0.mk H
                clear H
                obtain ⟨Ao17, co17, eo17⟩ := Kd.R_slice HO_3.out
                subst eo17
                have p303 : 0 ≤ ((ji12) : Int) := DA
                have q303 : (ji12) < (x3_2.length : Int) := DA
                obtain ⟨ad303, e303, hx303_0⟩ := Kd.at_int (Kd.R_reads' HO_3.out).2.2 (ji12) p303 q303
                cases e303
                replace p303 := eq_true p303
                replace q303 := eq_true q303
                have q18 : ((ji12) : Int) ≤ ((x3_2.length : Int) : Int) := DA
                obtain ⟨i018, hi018, _, hsz18, _⟩ := info_parts info34
                have hcut18 := cut_to (P := Tryd.prog) 23 34 .i64 Tryd.underlying23 hi018 (some ad303) x3_2.length co17 (ji12) (DA) q18 (Kd.R_reads' HO_3.out).2.1
                have hr18 := Kd.R_take (m := ((ji12) : Int).toNat) HO_3.out (by omega)
                have hy18 : y304.length = ((ji12) : Int).toNat := (by rw [Ny304.out, List.length_take]; omega)
                rw [← Ny304.out] at hr18
                rw [← hy18] at hr18 hcut18
                clear hy18 hi018 hsz18 HO_3
                have HO306 := Aside0.mk hr18
                clear hr18
                replace q18 := eq_true q18
                go_wp2
                go_roundg k2
                case measure => have := HK1.out; have := HK2.out; omega
                case rel => exact ⟨(y304), H', ⟨by have := HK1.out; have := HK2.out; omega⟩, ⟨by (with_reducible repeat (first | apply Kd.R_alloc | apply Kd.R_drewN | apply Kd.R_drew)); exact HO306.out⟩, ⟨BL⟩⟩
              · rw [if_neg c15] at H
                have c15b0 : ((rd x3_2 (ji12)) == 0) = false := beq_eq_false_iff_ne.mpr c15
                have c15b1 : ((rd x3_2 (ji12)) != 0) = true := bne_iff_ne.mpr c15
                obtain rfl := Option.some.inj H
                obtain ⟨Ao19, co19, eo19⟩ := Kd.R_slice HO_3.out
                subst eo19
                have p303 : 0 ≤ ((ji12) : Int) := DA
                have q303 : (ji12) < (x3_2.length : Int) := DA
                obtain ⟨ad303, e303, hx303_0⟩ := Kd.at_int (Kd.R_reads' HO_3.out).2.2 (ji12) p303 q303
                cases e303
                replace p303 := eq_true p303
                replace q303 := eq_true q303
                go_wp2
                go_ret
                exact ⟨_, by first | rfl | (simp [errW_none, errW_some] <;> rfl) | (simp only [← hji12]; first | rfl | (simp [errW_none, errW_some] <;> rfl)) | (simp [*, errW_none, errW_some] <;> rfl), by (with_reducible repeat (first | apply Kd.R_alloc | apply Kd.R_drewN | apply Kd.R_drew)); exact HO_3.out, BL⟩
            · rw [if_neg c11] at H
              have c11b0 : decide (0 < (x3_2.length : Int)) = false := decide_eq_false c11
              have c11b1 : decide (0 < x3_2.length) = false := decide_eq_false (by omega)
              clear c11
              obtain rfl := Option.some.inj H
              obtain ⟨Ao20, co20, eo20⟩ := Kd.R_slice HO_3.out
              subst eo20
              go_wp2
              go_ret
              exact ⟨_, by first | rfl | (simp [errW_none, errW_some] <;> rfl) | (simp [*, errW_none, errW_some] <;> rfl), by (with_reducible repeat (first | apply Kd.R_alloc | apply Kd.R_drewN | apply Kd.R_drew)); exact HO_3.out, BL⟩

/-! ### samphireref02_Of: function 14 -/
set_option maxHeartbeats 8000000 in
set_option maxRecDepth 100000 in
theorem samphireref02_Of.calls (k : Nat) (a0 : Int) (r : List Int) (w : World) (h : samphireref02_Of.f k a0 = some r) :
    Calls Tryd.prog 14 #[.int .u64 a0] w fun e w' => ∃ v0_ : Value, e = .returned (v0_) ∧ Kd.R (Kd.int .u32) 34 w' w.heap.size (fun _ => True) v0_ r ∧ Below w.heap.size w w' := by
  have HB := Aside0.mk (Below.refl w.heap.size w)
  have H : ((samphireref02_Whole.f k (([Int.tmod a0 65536, Int.tmod (IntKind.u64.wrap (Int.tdiv a0 65536)) 65536, Int.tmod (IntKind.u64.wrap (Int.tdiv a0 4294967296)) 65536, IntKind.u64.wrap (Int.tdiv a0 281474976710656)] : List Int))).bind fun t310 => (some t310)) = some r := h
  clear h
  obtain ⟨y307, Ny307⟩ := let_p (([Int.tmod a0 65536, Int.tmod (IntKind.u64.wrap (Int.tdiv a0 65536)) 65536, Int.tmod (IntKind.u64.wrap (Int.tdiv a0 4294967296)) 65536, IntKind.u64.wrap (Int.tdiv a0 281474976710656)] : List Int) : List Int)
  (first | rw [← Ny307.out] at H | simp only [← Ny307.out] at H)
  obtain ⟨t310, A2, H⟩ := bind_p H
  obtain rfl := Option.some.inj H
  go_enter Tryd.func14, Tryd.ntmps14
  go_wp2_with (first | ((with_reducible refine gate_dst (N := 13) rfl ?_); refine Kd.R_lit (Kd.int .u64) _ 24 ?hg (N := 13) ?hd (xs := ([Int.tmod a0 65536, Int.tmod (IntKind.u64.wrap (Int.tdiv a0 65536)) 65536, Int.tmod (IntKind.u64.wrap (Int.tdiv a0 4294967296)) 65536, IntKind.u64.wrap (Int.tdiv a0 281474976710656)] : List Int)) (inner := [.int .u64 (Int.tmod a0 65536), .int .u64 (Int.tmod (IntKind.u64.wrap (Int.tdiv a0 65536)) 65536), .int .u64 (Int.tmod (IntKind.u64.wrap (Int.tdiv a0 4294967296)) 65536), .int .u64 (IntKind.u64.wrap (Int.tdiv a0 281474976710656))]) (ok := fun _ => True) (okp := fun _ => True) ?hr ?hp (fun _ hk => hk) trivial (Below.refl _ _) (Nat.le_refl _) (by simp) ?_; (case hd => rfl); (case hg => rfl); (case hr => first | (go_simp; done) | (go_simp; rfl)); (case hp => exact (Reps.one (show Kd.M (Kd.int .u64) _ _ _ (Int.tmod a0 65536) [.int .u64 (Int.tmod a0 65536)] from rfl) (Reps.one (show Kd.M (Kd.int .u64) _ _ _ (Int.tmod (IntKind.u64.wrap (Int.tdiv a0 65536)) 65536) [.int .u64 (Int.tmod (IntKind.u64.wrap (Int.tdiv a0 65536)) 65536)] from rfl) (Reps.one (show Kd.M (Kd.int .u64) _ _ _ (Int.tmod (IntKind.u64.wrap (Int.tdiv a0 4294967296)) 65536) [.int .u64 (Int.tmod (IntKind.u64.wrap (Int.tdiv a0 4294967296)) 65536)] from rfl) (Reps.one (show Kd.M (Kd.int .u64) _ _ _ (IntKind.u64.wrap (Int.tdiv a0 281474976710656)) [.int .u64 (IntKind.u64.wrap (Int.tdiv a0 281474976710656))] from rfl) (Reps.none _ _)))))); intro v308 w3 ho4 hb hg_ hnew_; clear hg_ hnew_; (first | rw [← Ny307.out] at ho4 | (simp only [Int.reduceToNat] at ho4; rw [← Ny307.out] at ho4)); have n0_ := Aside0.mk (Kd.R_lower ho4 (below_size BL)); have n1_ := Aside0.mk (below_step BL hb); clear HB; have HO309 := n0_; have HB := n1_; clear n0_ n1_; clear hb ho4; obtain ⟨Ao5, co5, eo5⟩ := Kd.R_slice HO309.out; subst eo5) | ((with_reducible refine gate_callee (f := 37) rfl ?_); refine goesL_ (some 14) rfl rfl Tryd.func37 (by kernel_rfl) rfl #[.slice Ao5 y307.length co5] rfl EQ ?_; (with_reducible refine (samphireref02_Whole.calls k _ _ y307 t310 _ ?side1 ?side2 A2.out).mono ?_); (case side1 => exact RR HO309); (case side2 => exact (Kd.R_reads' HO309.out).2.1); rintro e w6 ⟨v311, rfl, ho0, hb⟩; refine ⟨_, rfl, ?_⟩; have n0_ := Aside0.mk (Kd.R_below (RL HO309) hb); have n1_ := Aside0.mk (Kd.R_lower ho0 (below_size BL)); have n2_ := Aside0.mk (below_step BL hb); clear HO309; clear HB; have HO309 := n0_; have HO312 := n1_; have HB := n2_; clear n0_ n1_ n2_; (try clear hb); (try clear hb2); (try clear hk); (try clear hi); (try clear ho0)))
  go_ret
  exact ⟨_, by first | rfl | (simp [errW_none, errW_some] <;> rfl) | (simp [*, errW_none, errW_some] <;> rfl), by (with_reducible repeat (first | apply Kd.R_alloc | apply Kd.R_drewN | apply Kd.R_drew)); exact HO312.out, BL⟩

/-! ### samphireref02_Right: function 15 -/
set_option maxHeartbeats 8000000 in
set_option maxRecDepth 100000 in
theorem samphireref02_Right.calls (A0 : Option Addr) (c0 : Nat) (l0 : List Int) (r : Bool) (w : World) (hr0 : Kd.C (Kd.int .u32) w A0 l0.length l0) (hc0 : l0.length ≤ c0) (h : samphireref02_Right.f l0 = some r) :
    Calls Tryd.prog 15 #[.slice A0 l0.length c0] w fun e w' => e = .returned (.bool r) ∧ Drawn0 w w' := by
  have HR0 := Aside0.mk hr0
  have HC0 := Aside0.mk hc0
  clear hr0 hc0
  have H : (if (l0.length : Int) > 64 then (some false) else (if (l0.length : Int) = 0 then (some true) else (if 0 ≤ (wrap64 ((l0.length : Int) - 1)) then (if (wrap64 ((l0.length : Int) - 1)) < (l0.length : Int) then (some (decide ((rd l0 (wrap64 ((l0.length : Int) - 1))) > 0))) else (none)) else (none)))) = some r := h
  clear h
  by_cases c2 : (l0.length : Int) > 64
  · rw [if_pos c2] at H
    have c2b0 : decide (64 < (l0.length : Int)) = true := decide_eq_true c2
    have c2b1 : decide (64 < l0.length) = true := decide_eq_true (by omega)
    clear c2
    obtain rfl := Option.some.inj H
    go_enter Tryd.func15, Tryd.ntmps15
    go_wp2
    go_ret
    exact ⟨by first | rfl | (simp; done) | (simp [*]; done) | (simp; exact isEmpty_bne _), by repeat (first | exact Drawn0.refl _ | apply Drawn0.step)⟩
  · rw [if_neg c2] at H
    have c2b0 : decide (64 < (l0.length : Int)) = false := decide_eq_false c2
    have c2b1 : decide (64 < l0.length) = false := decide_eq_false (by omega)
    clear c2
    by_cases c3 : (l0.length : Int) = 0
    · rw [if_pos c3] at H
      have c3b0 : ((l0.length : Int) == 0) = true := beq_iff_eq.mpr c3
      have c3b1 : ((l0.length : Int) != 0) = false := bne_eq_false_iff_eq.mpr c3
      clear c3
      obtain rfl := Option.some.inj H
      go_enter Tryd.func15, Tryd.ntmps15
      go_wp2
      go_ret
      exact ⟨by first | rfl | (simp; done) | (simp [*]; done) | (simp; exact isEmpty_bne _), by repeat (first | exact Drawn0.refl _ | apply Drawn0.step)⟩
    · rw [if_neg c3] at H
      have c3b0 : ((l0.length : Int) == 0) = false := beq_eq_false_iff_ne.mpr c3
      have c3b1 : ((l0.length : Int) != 0) = true := bne_iff_ne.mpr c3
      have c3b2 : ¬ (l0 = []) := fun h_ => c3 (by rw [h_]; rfl)
      obtain ⟨ji4, hji4⟩ := let_j (wrap64 ((l0.length : Int) - 1))
      (first | rw [hji4] at H | simp only [hji4] at H ⊢)
      have hji4w : (IntKind.i64.wrap ((l0.length : Int) - 1)) = ji4 := (i64_w _).trans hji4
      obtain ⟨c5, H⟩ := ite_p H
      have c5b0 : decide (0 ≤ (ji4)) = true := decide_eq_true c5
      clear c5
      obtain ⟨c6, H⟩ := ite_p H
      have c6b0 : decide ((ji4) < (l0.length : Int)) = true := decide_eq_true c6
      clear c6
      obtain rfl := Option.some.inj H
      have p313 : 0 ≤ ((ji4) : Int) := DA
      have q313 : (ji4) < (l0.length : Int) := DA
      obtain ⟨ad313, e313, hx313_0⟩ := Kd.at_int HR0.out (ji4) p313 q313
      cases e313
      replace p313 := eq_true p313
      replace q313 := eq_true q313
      go_enter Tryd.func15, Tryd.ntmps15
      go_wp2
      go_ret
      exact ⟨by first | rfl | (simp; done) | (simp only [← hji4] <;> (first | rfl | simp)) | (simp [*]; done), by repeat (first | exact Drawn0.refl _ | apply Drawn0.step)⟩

end Go.Proofs.YtecbbenfcepohaaDoor.K
