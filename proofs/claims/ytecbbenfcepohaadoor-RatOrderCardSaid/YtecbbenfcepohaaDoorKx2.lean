-- Printed by this session's own program out of the translation.
import Derived.Test.YtecbbenfcepohaaDoorKx0
import Derived.Test.YtecbbenfcepohaaDoorKx1
namespace Go.Proofs.YtecbbenfcepohaaDoor.K
open Go.RowKit Go.Proofs.YtecbbenfcepohaaDoorW.PrintWords Go.Proofs.YtecbbenfcepohaaDoorW.PrintLast Go.Proofs.YtecbbenfcepohaaDoorW.PrintMore
attribute [local go_sem] max2_int min2_int max_two min_two max_three min_three max_four min_four   -- for this text's walks alone
set_option linter.unusedVariables false
set_option linter.unusedSimpArgs false

/-! ### nat_give: function 82 -/
set_option maxHeartbeats 8000000 in
set_option maxRecDepth 100000 in
theorem nat_give.calls (k : Nat) (P0_ : Nat → Prop) (u9000_ : Value) (l0 : List Int) (A1 : Option Addr) (c1 : Nat) (l1 : List Int) (a2 : Int) (r : List Int) (w0 w : World) (hB : Below w0.heap.size w0 w) (ho0 : Kd.R (Kd.int .u32) 34 w w0.heap.size P0_ u9000_ l0) (hr1 : ∀ W_, Kept w W_ (fun k_ => P0_ k_) → Kd.C (Kd.int .u32) W_ A1 l1.length l1) (hc1 : l1.length ≤ c1) (h : nat_give.f k l0 l1 a2 = some r) :
    Calls Tryd.prog 82 #[u9000_, .slice A1 l1.length c1, .int .i64 a2] w fun e w' => e = .returned (.tuple #[]) ∧ Kd.R (Kd.int .u32) 34 w' w0.heap.size (fun k_ => (P0_ k_ ∨ w.heap.size ≤ k_)) u9000_ r ∧ Below w0.heap.size w0 w' ∧ Kept w w' (fun k_ => P0_ k_) := by
  have HO0 := Aside0.mk (show Kd.R (Kd.int .u32) 34 w w0.heap.size (fun k_ => (P0_ k_ ∨ w.heap.size ≤ k_)) u9000_ l0 from Kd.R_mono ho0 (fun k_ hk => (.inl hk)))
  have HR1 := Aside0.mk hr1
  have HC1 := Aside0.mk hc1
  clear hr1 hc1
  have HK := Aside0.mk (Kept.refl w (fun k_ => P0_ k_))
  have HW0 := Aside0.mk hB.size
  have HB := Aside0.mk hB
  clear hB
  have H : (nat_give.l0 k l0 l1 a2 0 (l1.length : Int) 0) = some r := h
  clear h
  have H' := Aside0.mk H
  clear H
  go_enter Tryd.func82, Tryd.ntmps82
  go_wp2
  repeat (go_quiet (fail); try go_wp2)
  go_loopg [6, 10] k (fun kq v6 v10 w' => ∃ (x0_1 : List Int) (x6_1 : Int) (x10_1 : Int), v6 = .int .u64 x6_1 ∧ v10 = .int .i64 x10_1 ∧ Aside0 (nat_give.l0 kq x0_1 l1 a2 x6_1 (l1.length : Int) x10_1 = some r) ∧ Aside0 (kq ≤ k) ∧ Aside0 (Kd.R (Kd.int .u32) 34 w' w0.heap.size (fun k_ => (P0_ k_ ∨ w.heap.size ≤ k_)) u9000_ x0_1) ∧ Aside0 (Kept w w' (fun k_ => P0_ k_)) ∧ Aside0 (Below w0.heap.size w0 w'))
  case atStart => exact ⟨(l0), (0), (0), (by first | rfl | (simp; done) | (simp [*]; done) | (simp; exact isEmpty_bne _)), (by first | rfl | (simp; done) | (simp [*]; done) | (simp; exact isEmpty_bne _)), H', ⟨Nat.le_refl _⟩, ⟨by (with_reducible repeat (first | apply Kd.R_alloc | apply Kd.R_drewN | apply Kd.R_drew)); exact HO0.out⟩, ⟨by repeat (first | (with_reducible first | exact HK.out | apply Kept.alloc | apply Kept.drewN | apply Kept.drew) | exact HK.out)⟩, ⟨BL⟩⟩
  case round =>
    clear H'
    try clear c1
    try clear p2
    obtain ⟨x0_1, x6_1, x10_1, rfl, rfl, HA, HK1, HO_0, HK, HB⟩ := hrel
    cases gk with
    | zero => exact absurd HA.out (by simp [nat_give.l0])
    | succ k1 =>
      have H := HA.out
      clear HA
      simp only [nat_give.l0] at H
      by_cases c4 : x10_1 < (l1.length : Int)
      · rw [if_pos c4] at H
        have c4b0 : decide (x10_1 < (l1.length : Int)) = true := decide_eq_true c4
        clear c4
        obtain ⟨ji5, hji5⟩ := let_j (wrap64 (a2 + x10_1))
        (first | rw [hji5] at H | simp only [hji5] at H ⊢)
        have hji5w : (IntKind.i64.wrap (a2 + x10_1)) = ji5 := (i64_w _).trans hji5
        obtain ⟨c6, H⟩ := ite_p H
        have c6b0 : decide (0 ≤ (ji5)) = true := decide_eq_true c6
        clear c6
        obtain ⟨c7, H⟩ := ite_p H
        have c7b0 : decide ((ji5) < (x0_1.length : Int)) = true := decide_eq_true c7
        clear c7
        obtain ⟨c8, H⟩ := ite_p H
        have c8b0 : decide (0 ≤ x10_1) = true := decide_eq_true c8
        clear c8
        obtain ⟨c9, H⟩ := ite_p H
        have c9b0 : decide (x10_1 < (l1.length : Int)) = true := decide_eq_true c9
        clear c9
        obtain ⟨y154, Ny154⟩ := let_p (x0_1.set ((ji5) : Int).toNat ((IntKind.u64.wrap (x6_1 + (IntKind.u64.wrap ((IntKind.u64.wrap (rd x0_1 (ji5))) + (IntKind.u64.wrap (rd l1 x10_1)))))) % 4294967296) : List Int)
        (first | rw [← Ny154.out] at H | simp only [← Ny154.out] at H)
        have H' := Aside0.mk H
        clear H
        obtain ⟨Ao11, co11, eo11⟩ := Kd.R_slice HO_0.out
        subst eo11
        have p152 : 0 ≤ ((ji5) : Int) := DA
        have q152 : (ji5) < (x0_1.length : Int) := DA
        obtain ⟨ad152, e152, hx152_0⟩ := Kd.at_int (Kd.R_reads' HO_0.out).2.2 (ji5) p152 q152
        cases e152
        replace p152 := eq_true p152
        replace q152 := eq_true q152
        have p153 : 0 ≤ (x10_1 : Int) := DA
        have q153 : x10_1 < (l1.length : Int) := DA
        obtain ⟨ad153, e153, hx153_0⟩ := Kd.at_int (Kd.C_kept_now HR1.out HK.out) x10_1 p153 q153
        cases e153
        replace p153 := eq_true p153
        replace q153 := eq_true q153
        have p10 : 0 ≤ ((ji5) : Int) := DA
        have q10 : ((ji5) : Int) < ((x0_1.length : Int) : Int) := DA
        obtain ⟨go10, co10, eo10, gb10, gl10, cl10, HG10⟩ := Kd.R_form HO_0.out (by omega)
        (first | cases eo10 | (injection eo10 with ea_ en_ ec_; (first | subst ea_ | (injection ea_ with ea_; subst ea_)); subst ec_; clear en_))
        have GB10 := Aside0.mk gb10
        have GG10 := Aside0.mk HG10
        clear gb10 gl10 HG10
        have HMgo10 := Aside0.mk (show (P0_ go10 ∨ w.heap.size ≤ go10) from (HO_0.out.1 _ rfl))
        (first | simp only [add_plain] at hx152_0 | skip)
        obtain ⟨hx10_0, hf10_0⟩ := Kd.R_celln 0 HO_0.out ((ji5) : Int) p10 q10
        replace p10 := eq_true p10
        replace q10 := eq_true q10
        have HP12 := Kd.R_putg HO_0.out ((ji5) : Int) ((IntKind.u64.wrap (x6_1 + (IntKind.u64.wrap ((IntKind.u64.wrap (rd x0_1 (ji5))) + (IntKind.u64.wrap (rd l1 x10_1)))))) % 4294967296)
        go_wp2_with (first | ((with_reducible refine gate_store (t := 34) (p := 34) rfl ?_); (try (rw [drewN_self wr]; generalize hq_ : World.drewN wr _ = wr; have n0_ := Aside0.mk (Kd.R_at hq_ HO_0.out); have n1_ := Aside0.mk (kept_at hq_ HK.out); have n2_ := Aside0.mk (below_at hq_ HB.out); clear hq_ HO_0 HK HB; have HO_0 := n0_; have HK := n1_; have HB := n2_; clear n0_ n1_ n2_; (try (obtain ⟨hx10_0, hf10_0⟩ := Kd.R_celln 0 HO_0.out ((ji5) : Int) (of_eq_true p10) (of_eq_true q10))); (try (have HP12 := Kd.R_putg HO_0.out ((ji5) : Int) ((IntKind.u64.wrap (x6_1 + (IntKind.u64.wrap ((IntKind.u64.wrap (rd x0_1 (ji5))) + (IntKind.u64.wrap (rd l1 x10_1)))))) % 4294967296))))); refine store_event (t := 34) (p := 34) (v := ?vo_w13) (w1 := (wr.setCell ⟨go10, ((ji5) : Int).toNat, none⟩ (.int .u32 ((IntKind.u64.wrap (x6_1 + (IntKind.u64.wrap ((IntKind.u64.wrap (rd x0_1 (ji5))) + (IntKind.u64.wrap (rd l1 x10_1)))))) % 4294967296)))) ?hg ?ho ?hn ?hr ?_; (case ho => rfl); (case hg => rfl); (case hn => rfl); (case hr => first | (go_simp; done) | (go_simp; rfl)); intro w13 hw; have hg : wr.grownBy w13 (some go10) := (by rw [hw]; exact HP12.2); have hp_ : Kd.R (Kd.int .u32) 34 w13 w0.heap.size (fun k_ => (P0_ k_ ∨ w.heap.size ≤ k_)) (.slice (some ⟨go10, 0, none⟩) x0_1.length co11) y154 := (by rw [hw, Ny154.out]; exact HP12.1); clear HP12; have n0_ := Aside0.mk (hp_); have n1_ := Aside0.mk ((by rw [hw]; exact below_set (HB.out) GB10.out : Below w0.heap.size w0 w13)); have n2_ := Aside0.mk (Kept.of_grown (S := (fun k_ => P0_ k_)) hg (by repeat (first | (with_reducible first | exact HK.out | apply Kept.alloc | apply Kept.drewN | apply Kept.drew) | exact HK.out)) (fun k_ e_ => (HO_0.out.1 k_ e_))); clear HO_0; clear HB; clear HK; have HO_0 := n0_; have HB := n1_; have HK := n2_; clear n0_ n1_ n2_; clear hg hw hp_))
        repeat (go_quiet (first | ((with_reducible refine gate_store (t := 34) (p := 34) rfl ?_); (try (rw [drewN_self wr]; generalize hq_ : World.drewN wr _ = wr; have n0_ := Aside0.mk (Kd.R_at hq_ HO_0.out); have n1_ := Aside0.mk (kept_at hq_ HK.out); have n2_ := Aside0.mk (below_at hq_ HB.out); clear hq_ HO_0 HK HB; have HO_0 := n0_; have HK := n1_; have HB := n2_; clear n0_ n1_ n2_; (try (obtain ⟨hx10_0, hf10_0⟩ := Kd.R_celln 0 HO_0.out ((ji5) : Int) (of_eq_true p10) (of_eq_true q10))); (try (have HP12 := Kd.R_putg HO_0.out ((ji5) : Int) ((IntKind.u64.wrap (x6_1 + (IntKind.u64.wrap ((IntKind.u64.wrap (rd x0_1 (ji5))) + (IntKind.u64.wrap (rd l1 x10_1)))))) % 4294967296))))); refine store_event (t := 34) (p := 34) (v := ?vo_w13) (w1 := (wr.setCell ⟨go10, ((ji5) : Int).toNat, none⟩ (.int .u32 ((IntKind.u64.wrap (x6_1 + (IntKind.u64.wrap ((IntKind.u64.wrap (rd x0_1 (ji5))) + (IntKind.u64.wrap (rd l1 x10_1)))))) % 4294967296)))) ?hg ?ho ?hn ?hr ?_; (case ho => rfl); (case hg => rfl); (case hn => rfl); (case hr => first | (go_simp; done) | (go_simp; rfl)); intro w13 hw; have hg : wr.grownBy w13 (some go10) := (by rw [hw]; exact HP12.2); have hp_ : Kd.R (Kd.int .u32) 34 w13 w0.heap.size (fun k_ => (P0_ k_ ∨ w.heap.size ≤ k_)) (.slice (some ⟨go10, 0, none⟩) x0_1.length co11) y154 := (by rw [hw, Ny154.out]; exact HP12.1); clear HP12; have n0_ := Aside0.mk (hp_); have n1_ := Aside0.mk ((by rw [hw]; exact below_set (HB.out) GB10.out : Below w0.heap.size w0 w13)); have n2_ := Aside0.mk (Kept.of_grown (S := (fun k_ => P0_ k_)) hg (by repeat (first | (with_reducible first | exact HK.out | apply Kept.alloc | apply Kept.drewN | apply Kept.drew) | exact HK.out)) (fun k_ e_ => (HO_0.out.1 k_ e_))); clear HO_0; clear HB; clear HK; have HO_0 := n0_; have HB := n1_; have HK := n2_; clear n0_ n1_ n2_; clear hg hw hp_)); try go_wp2_with (first | ((with_reducible refine gate_store (t := 34) (p := 34) rfl ?_); (try (rw [drewN_self wr]; generalize hq_ : World.drewN wr _ = wr; have n0_ := Aside0.mk (Kd.R_at hq_ HO_0.out); have n1_ := Aside0.mk (kept_at hq_ HK.out); have n2_ := Aside0.mk (below_at hq_ HB.out); clear hq_ HO_0 HK HB; have HO_0 := n0_; have HK := n1_; have HB := n2_; clear n0_ n1_ n2_; (try (obtain ⟨hx10_0, hf10_0⟩ := Kd.R_celln 0 HO_0.out ((ji5) : Int) (of_eq_true p10) (of_eq_true q10))); (try (have HP12 := Kd.R_putg HO_0.out ((ji5) : Int) ((IntKind.u64.wrap (x6_1 + (IntKind.u64.wrap ((IntKind.u64.wrap (rd x0_1 (ji5))) + (IntKind.u64.wrap (rd l1 x10_1)))))) % 4294967296))))); refine store_event (t := 34) (p := 34) (v := ?vo_w13) (w1 := (wr.setCell ⟨go10, ((ji5) : Int).toNat, none⟩ (.int .u32 ((IntKind.u64.wrap (x6_1 + (IntKind.u64.wrap ((IntKind.u64.wrap (rd x0_1 (ji5))) + (IntKind.u64.wrap (rd l1 x10_1)))))) % 4294967296)))) ?hg ?ho ?hn ?hr ?_; (case ho => rfl); (case hg => rfl); (case hn => rfl); (case hr => first | (go_simp; done) | (go_simp; rfl)); intro w13 hw; have hg : wr.grownBy w13 (some go10) := (by rw [hw]; exact HP12.2); have hp_ : Kd.R (Kd.int .u32) 34 w13 w0.heap.size (fun k_ => (P0_ k_ ∨ w.heap.size ≤ k_)) (.slice (some ⟨go10, 0, none⟩) x0_1.length co11) y154 := (by rw [hw, Ny154.out]; exact HP12.1); clear HP12; have n0_ := Aside0.mk (hp_); have n1_ := Aside0.mk ((by rw [hw]; exact below_set (HB.out) GB10.out : Below w0.heap.size w0 w13)); have n2_ := Aside0.mk (Kept.of_grown (S := (fun k_ => P0_ k_)) hg (by repeat (first | (with_reducible first | exact HK.out | apply Kept.alloc | apply Kept.drewN | apply Kept.drew) | exact HK.out)) (fun k_ e_ => (HO_0.out.1 k_ e_))); clear HO_0; clear HB; clear HK; have HO_0 := n0_; have HB := n1_; have HK := n2_; clear n0_ n1_ n2_; clear hg hw hp_)))
        go_roundg k1
        case measure => have := HK1.out; omega
        case rel => exact ⟨(y154), ((IntKind.u64.wrap (x6_1 + (IntKind.u64.wrap ((IntKind.u64.wrap (rd x0_1 (ji5))) + (IntKind.u64.wrap (rd l1 x10_1)))))) / 4294967296), (wrap64 (x10_1 + 1)), (by first | rfl | (simp; done) | (simp only [← hji5] <;> (first | rfl | simp)) | (simp [*]; done)), (by first | rfl | (simp; done) | (simp [*]; done) | (simp; exact isEmpty_bne _)), H', ⟨by have := HK1.out; omega⟩, ⟨by (with_reducible repeat (first | apply Kd.R_alloc | apply Kd.R_drewN | apply Kd.R_drew)); exact HO_0.out⟩, ⟨by repeat (first | (with_reducible first | exact HK.out | apply Kept.alloc | apply Kept.drewN | apply Kept.drew) | exact HK.out)⟩, ⟨BL⟩⟩
      · rw [if_neg c4] at H
        have c4b0 : decide (x10_1 < (l1.length : Int)) = false := decide_eq_false c4
        clear c4
        obtain ⟨ji14, hji14⟩ := let_j (wrap64 (a2 + (l1.length : Int)))
        (first | rw [hji14] at H | simp only [hji14] at H ⊢)
        have hji14w : (IntKind.i64.wrap (a2 + (l1.length : Int))) = ji14 := (i64_w _).trans hji14
        obtain ⟨c15, H⟩ := ite_p H
        have c15b0 : decide (0 ≤ (ji14)) = true := decide_eq_true c15
        clear c15
        obtain ⟨c16, H⟩ := ite_p H
        have c16b0 : decide ((ji14) < (x0_1.length : Int)) = true := decide_eq_true c16
        clear c16
        obtain ⟨y156, Ny156⟩ := let_p (x0_1.set ((ji14) : Int).toNat (((rd x0_1 (ji14)) + ((x6_1) % 4294967296)) % 4294967296) : List Int)
        (first | rw [← Ny156.out] at H | simp only [← Ny156.out] at H)
        obtain rfl := Option.some.inj H
        obtain ⟨Ao18, co18, eo18⟩ := Kd.R_slice HO_0.out
        subst eo18
        have p155 : 0 ≤ ((ji14) : Int) := DA
        have q155 : (ji14) < (x0_1.length : Int) := DA
        obtain ⟨ad155, e155, hx155_0⟩ := Kd.at_int (Kd.R_reads' HO_0.out).2.2 (ji14) p155 q155
        cases e155
        replace p155 := eq_true p155
        replace q155 := eq_true q155
        have p17 : 0 ≤ ((ji14) : Int) := DA
        have q17 : ((ji14) : Int) < ((x0_1.length : Int) : Int) := DA
        obtain ⟨go17, co17, eo17, gb17, gl17, cl17, HG17⟩ := Kd.R_form HO_0.out (by omega)
        (first | cases eo17 | (injection eo17 with ea_ en_ ec_; (first | subst ea_ | (injection ea_ with ea_; subst ea_)); subst ec_; clear en_))
        have GB17 := Aside0.mk gb17
        have GG17 := Aside0.mk HG17
        clear gb17 gl17 HG17
        have HMgo17 := Aside0.mk (show (P0_ go17 ∨ w.heap.size ≤ go17) from (HO_0.out.1 _ rfl))
        (first | simp only [add_plain] at hx155_0 | skip)
        obtain ⟨hx17_0, hf17_0⟩ := Kd.R_celln 0 HO_0.out ((ji14) : Int) p17 q17
        replace p17 := eq_true p17
        replace q17 := eq_true q17
        have HP19 := Kd.R_putg HO_0.out ((ji14) : Int) (((rd x0_1 (ji14)) + ((x6_1) % 4294967296)) % 4294967296)
        go_wp2_with (first | ((with_reducible refine gate_store (t := 34) (p := 48) rfl ?_); (try (rw [drewN_self wr]; generalize hq_ : World.drewN wr _ = wr; have n0_ := Aside0.mk (Kd.R_at hq_ HO_0.out); have n1_ := Aside0.mk (kept_at hq_ HK.out); have n2_ := Aside0.mk (below_at hq_ HB.out); clear hq_ HO_0 HK HB; have HO_0 := n0_; have HK := n1_; have HB := n2_; clear n0_ n1_ n2_; (try (obtain ⟨hx17_0, hf17_0⟩ := Kd.R_celln 0 HO_0.out ((ji14) : Int) (of_eq_true p17) (of_eq_true q17))); (try (have HP19 := Kd.R_putg HO_0.out ((ji14) : Int) (((rd x0_1 (ji14)) + ((x6_1) % 4294967296)) % 4294967296))))); refine store_event (t := 34) (p := 48) (v := ?vo_w20) (w1 := (wr.setCell ⟨go17, ((ji14) : Int).toNat, none⟩ (.int .u32 (((rd x0_1 (ji14)) + ((x6_1) % 4294967296)) % 4294967296)))) ?hg ?ho ?hn ?hr ?_; (case ho => rfl); (case hg => rfl); (case hn => rfl); (case hr => first | (go_simp; done) | (go_simp; rfl)); intro w20 hw; have hg : wr.grownBy w20 (some go17) := (by rw [hw]; exact HP19.2); have hp_ : Kd.R (Kd.int .u32) 34 w20 w0.heap.size (fun k_ => (P0_ k_ ∨ w.heap.size ≤ k_)) (.slice (some ⟨go17, 0, none⟩) x0_1.length co18) y156 := (by rw [hw, Ny156.out]; exact HP19.1); clear HP19; have n0_ := Aside0.mk (hp_); have n1_ := Aside0.mk ((by rw [hw]; exact below_set (HB.out) GB17.out : Below w0.heap.size w0 w20)); have n2_ := Aside0.mk (Kept.of_grown (S := (fun k_ => P0_ k_)) hg (by repeat (first | (with_reducible first | exact HK.out | apply Kept.alloc | apply Kept.drewN | apply Kept.drew) | exact HK.out)) (fun k_ e_ => (HO_0.out.1 k_ e_))); clear HO_0; clear HB; clear HK; have HO_0 := n0_; have HB := n1_; have HK := n2_; clear n0_ n1_ n2_; clear hg hw hp_))
        repeat (go_quiet (first | ((with_reducible refine gate_store (t := 34) (p := 48) rfl ?_); (try (rw [drewN_self wr]; generalize hq_ : World.drewN wr _ = wr; have n0_ := Aside0.mk (Kd.R_at hq_ HO_0.out); have n1_ := Aside0.mk (kept_at hq_ HK.out); have n2_ := Aside0.mk (below_at hq_ HB.out); clear hq_ HO_0 HK HB; have HO_0 := n0_; have HK := n1_; have HB := n2_; clear n0_ n1_ n2_; (try (obtain ⟨hx17_0, hf17_0⟩ := Kd.R_celln 0 HO_0.out ((ji14) : Int) (of_eq_true p17) (of_eq_true q17))); (try (have HP19 := Kd.R_putg HO_0.out ((ji14) : Int) (((rd x0_1 (ji14)) + ((x6_1) % 4294967296)) % 4294967296))))); refine store_event (t := 34) (p := 48) (v := ?vo_w20) (w1 := (wr.setCell ⟨go17, ((ji14) : Int).toNat, none⟩ (.int .u32 (((rd x0_1 (ji14)) + ((x6_1) % 4294967296)) % 4294967296)))) ?hg ?ho ?hn ?hr ?_; (case ho => rfl); (case hg => rfl); (case hn => rfl); (case hr => first | (go_simp; done) | (go_simp; rfl)); intro w20 hw; have hg : wr.grownBy w20 (some go17) := (by rw [hw]; exact HP19.2); have hp_ : Kd.R (Kd.int .u32) 34 w20 w0.heap.size (fun k_ => (P0_ k_ ∨ w.heap.size ≤ k_)) (.slice (some ⟨go17, 0, none⟩) x0_1.length co18) y156 := (by rw [hw, Ny156.out]; exact HP19.1); clear HP19; have n0_ := Aside0.mk (hp_); have n1_ := Aside0.mk ((by rw [hw]; exact below_set (HB.out) GB17.out : Below w0.heap.size w0 w20)); have n2_ := Aside0.mk (Kept.of_grown (S := (fun k_ => P0_ k_)) hg (by repeat (first | (with_reducible first | exact HK.out | apply Kept.alloc | apply Kept.drewN | apply Kept.drew) | exact HK.out)) (fun k_ e_ => (HO_0.out.1 k_ e_))); clear HO_0; clear HB; clear HK; have HO_0 := n0_; have HB := n1_; have HK := n2_; clear n0_ n1_ n2_; clear hg hw hp_)); try go_wp2_with (first | ((with_reducible refine gate_store (t := 34) (p := 48) rfl ?_); (try (rw [drewN_self wr]; generalize hq_ : World.drewN wr _ = wr; have n0_ := Aside0.mk (Kd.R_at hq_ HO_0.out); have n1_ := Aside0.mk (kept_at hq_ HK.out); have n2_ := Aside0.mk (below_at hq_ HB.out); clear hq_ HO_0 HK HB; have HO_0 := n0_; have HK := n1_; have HB := n2_; clear n0_ n1_ n2_; (try (obtain ⟨hx17_0, hf17_0⟩ := Kd.R_celln 0 HO_0.out ((ji14) : Int) (of_eq_true p17) (of_eq_true q17))); (try (have HP19 := Kd.R_putg HO_0.out ((ji14) : Int) (((rd x0_1 (ji14)) + ((x6_1) % 4294967296)) % 4294967296))))); refine store_event (t := 34) (p := 48) (v := ?vo_w20) (w1 := (wr.setCell ⟨go17, ((ji14) : Int).toNat, none⟩ (.int .u32 (((rd x0_1 (ji14)) + ((x6_1) % 4294967296)) % 4294967296)))) ?hg ?ho ?hn ?hr ?_; (case ho => rfl); (case hg => rfl); (case hn => rfl); (case hr => first | (go_simp; done) | (go_simp; rfl)); intro w20 hw; have hg : wr.grownBy w20 (some go17) := (by rw [hw]; exact HP19.2); have hp_ : Kd.R (Kd.int .u32) 34 w20 w0.heap.size (fun k_ => (P0_ k_ ∨ w.heap.size ≤ k_)) (.slice (some ⟨go17, 0, none⟩) x0_1.length co18) y156 := (by rw [hw, Ny156.out]; exact HP19.1); clear HP19; have n0_ := Aside0.mk (hp_); have n1_ := Aside0.mk ((by rw [hw]; exact below_set (HB.out) GB17.out : Below w0.heap.size w0 w20)); have n2_ := Aside0.mk (Kept.of_grown (S := (fun k_ => P0_ k_)) hg (by repeat (first | (with_reducible first | exact HK.out | apply Kept.alloc | apply Kept.drewN | apply Kept.drew) | exact HK.out)) (fun k_ e_ => (HO_0.out.1 k_ e_))); clear HO_0; clear HB; clear HK; have HO_0 := n0_; have HB := n1_; have HK := n2_; clear n0_ n1_ n2_; clear hg hw hp_)))
        first | go_end0 | ((try simp only [Exit.inBlock, Exit.then]); refine bodyPost_ret (results_none rfl _ _ _) rfl ?_)
        exact ⟨by first | rfl | (simp [errW_none, errW_some] <;> rfl) | (simp only [← hji14]; first | rfl | (simp [errW_none, errW_some] <;> rfl)) | (simp [*, errW_none, errW_some] <;> rfl), by (with_reducible repeat (first | apply Kd.R_alloc | apply Kd.R_drewN | apply Kd.R_drew)); exact HO_0.out, by repeat (first | (with_reducible first | exact HB.out | apply below_alloc | apply pw_below_drewN | apply below_drew1) | exact HB.out), by repeat (first | (with_reducible first | exact HK.out | apply Kept.alloc | apply Kept.drewN | apply Kept.drew) | exact HK.out)⟩

/-! ### nat_at: function 73 -/
set_option maxHeartbeats 8000000 in
set_option maxRecDepth 100000 in
theorem nat_at.calls (A0 : Option Addr) (c0 : Nat) (l0 : List Int) (a1 : Int) (r : Int) (w : World) (hr0 : Kd.C (Kd.int .u32) w A0 l0.length l0) (hc0 : l0.length ≤ c0) (h : nat_at.f l0 a1 = some r) :
    Calls Tryd.prog 73 #[.slice A0 l0.length c0, .int .i64 a1] w fun e w' => e = .returned (.int .u64 r) ∧ Drawn0 w w' := by
  have HR0 := Aside0.mk hr0
  have HC0 := Aside0.mk hc0
  clear hr0 hc0
  have H : (if a1 < (l0.length : Int) then (if 0 ≤ a1 then (some (IntKind.u64.wrap (rd l0 a1))) else (none)) else (some 0)) = some r := h
  clear h
  by_cases c3 : a1 < (l0.length : Int)
  · rw [if_pos c3] at H
    have c3b0 : decide (a1 < (l0.length : Int)) = true := decide_eq_true c3
    clear c3
    obtain ⟨c4, H⟩ := ite_p H
    have c4b0 : decide (0 ≤ a1) = true := decide_eq_true c4
    clear c4
    obtain rfl := Option.some.inj H
    have p157 : 0 ≤ (a1 : Int) := DA
    have q157 : a1 < (l0.length : Int) := DA
    obtain ⟨ad157, e157, hx157_0⟩ := Kd.at_int HR0.out a1 p157 q157
    cases e157
    replace p157 := eq_true p157
    replace q157 := eq_true q157
    go_enter Tryd.func73, Tryd.ntmps73
    go_wp2
    go_ret
    exact ⟨by first | rfl | (simp; done) | (simp [*]; done) | (simp; exact isEmpty_bne _), by repeat (first | exact Drawn0.refl _ | apply Drawn0.step)⟩
  · rw [if_neg c3] at H
    have c3b0 : decide (a1 < (l0.length : Int)) = false := decide_eq_false c3
    clear c3
    obtain rfl := Option.some.inj H
    go_enter Tryd.func73, Tryd.ntmps73
    go_wp2
    go_ret
    exact ⟨by first | rfl | (simp; done) | (simp [*]; done) | (simp; exact isEmpty_bne _), by repeat (first | exact Drawn0.refl _ | apply Drawn0.step)⟩

/-! ### nat_unshift: function 83 -/
def nat_unshift.T5 : Bool × List (List Nat × List Nat) := (true, [([], []), ([], []), ([], []), ([], []), ([2, 3], [2, 3]), ([], []), ([], []), ([6], [6]), ([5, 7], [5, 7]), ([], []), ([9], [9]), ([8, 10], [8, 10]), ([11], [11]), ([4, 12], [4, 12]), ([0, 1, 0, 1, 2, 3, 4, 5, 6, 7, 8, 9, 10, 11, 12, 13], [0, 1]), ([14, 13, 8, 0, 1, 2, 3, 4, 5, 6, 7, 8, 9, 10, 11, 12, 13], [13, 14])])
def nat_unshift.B5 : List Nat := [0, 0, 0, 0, 12, 0, 0, 64, 224, 0, 512, 2016, 4064, 8188, 16383, 32767]
theorem nat_unshift.tab5 : rtab .any (opsOf Tryd.f83 5) = nat_unshift.T5 := by kernel_rfl
theorem nat_unshift.bits5 : waitsOk nat_unshift.T5.2 nat_unshift.B5 = true := by kernel_rfl
set_option maxHeartbeats 8000000 in
set_option maxRecDepth 100000 in
theorem nat_unshift.calls (k : Nat) (A0 : Option Addr) (c0 : Nat) (l0 : List Int) (a1 : Int) (r : List Int) (w : World) (hr0 : Kd.C (Kd.int .u32) w A0 l0.length l0) (hc0 : l0.length ≤ c0) (h : nat_unshift.f k l0 a1 = some r) :
    Calls Tryd.prog 83 #[.slice A0 l0.length c0, .int .i64 a1] w fun e w' => ∃ v0_ : Value, e = .returned (v0_) ∧ Kd.R (Kd.int .u32) 34 w' w.heap.size (fun _ => True) v0_ r ∧ Below w.heap.size w w' := by
  have HR0 := Aside0.mk hr0
  have HC0 := Aside0.mk hc0
  clear hr0 hc0
  have HB := Aside0.mk (Below.refl w.heap.size w)
  have H : (if 0 ≤ (l0.length : Int) then (if ((l0.length : Int) : Int).toNat ≤ 70368744177664 then (nat_unshift.l0 k l0 a1 (List.replicate ((l0.length : Int) : Int).toNat 0) l0 (l0.length : Int) 0) else (none)) else (none)) = some r := h
  clear h
  obtain ⟨c3, H⟩ := ite_p H
  have c3b0 := eq_true c3
  have c3b1 : decide (0 ≤ (l0.length : Int)) = true := decide_eq_true c3
  clear c3
  obtain ⟨c4, H⟩ := ite_p H
  have c4b0 := eq_true c4
  have c4b1 : decide (((l0.length : Int) : Int).toNat ≤ 70368744177664) = true := decide_eq_true c4
  clear c4
  obtain ⟨y158, Ny158⟩ := let_p (List.replicate ((l0.length : Int) : Int).toNat 0 : List Int)
  (first | rw [← Ny158.out] at H | simp only [← Ny158.out] at H)
  have H' := Aside0.mk H
  clear H
  go_enter Tryd.func83, Tryd.ntmps83
  go_wp2_with (first | ((with_reducible refine gate_dst (N := 10) rfl ?_); refine Kd.R_make (Kd.int .u32) _ 34 rfl (N := 10) rfl 22 _ _ rfl (l0.length : Int) rfl rfl Tryd.underlying22 (.int .u32 0) 4 info34 rfl (by decide) (by omega) 0 (ok := fun _ => True) (okp := fun _ => True) rfl (fun _ hk => hk) trivial (DA) (Nat.le_trans (Nat.mul_le_mul_right _ (DA : (l0.length : Int).toNat ≤ 70368744177664)) (by omega)) (Below.refl _ _) (Nat.le_refl _) ?_; intro v159 w5 ho6 hb hg_ hnew_; clear hg_ hnew_; (first | rw [← Ny158.out] at ho6 | (simp only [Int.reduceToNat] at ho6; rw [← Ny158.out] at ho6)); have n0_ := Aside0.mk (Kd.R_lower ho6 (below_size BL)); have n1_ := Aside0.mk (below_step BL hb); clear HB; have HO160 := n0_; have HB := n1_; clear n0_ n1_; clear hb ho6))
  go_loopg [13] k (fun kq v13 w' => ∃ (x5_1 : List Int) (x13_1 : Int), v13 = .int .i64 x13_1 ∧ Aside0 (nat_unshift.l0 kq l0 a1 x5_1 l0 (l0.length : Int) x13_1 = some r) ∧ Aside0 (kq ≤ k) ∧ Aside0 (Kd.R (Kd.int .u32) 34 w' w.heap.size (fun _ => True) v159 x5_1) ∧ Aside0 (Below w.heap.size w w'))
  case atStart => exact ⟨(y158), (0), (by first | rfl | (simp; done) | (simp [*]; done) | (simp; exact isEmpty_bne _)), H', ⟨Nat.le_refl _⟩, ⟨by (with_reducible repeat (first | apply Kd.R_alloc | apply Kd.R_drewN | apply Kd.R_drew)); exact HO160.out⟩, ⟨BL⟩⟩
  case round =>
    clear H'
    try clear p2
    try clear c3
    try clear c3b0
    try clear c3b1
    try clear c4
    try clear c4b0
    try clear c4b1
    obtain ⟨x5_1, x13_1, rfl, HA, HK1, HO_5, HB⟩ := hrel
    cases gk with
    | zero => exact absurd HA.out (by simp [nat_unshift.l0])
    | succ k1 =>
      have H := HA.out
      clear HA
      simp only [nat_unshift.l0] at H
      by_cases c7 : x13_1 < (l0.length : Int)
      · rw [if_pos c7] at H
        have c7b0 : decide (x13_1 < (l0.length : Int)) = true := decide_eq_true c7
        clear c7
        obtain ⟨c8, H⟩ := ite_p H
        have c8b0 : decide (0 ≤ x13_1) = true := decide_eq_true c8
        clear c8
        obtain ⟨c9, H⟩ := ite_p H
        have c9b0 : decide (x13_1 < (l0.length : Int)) = true := decide_eq_true c9
        clear c9
        obtain ⟨c10, H⟩ := ite_p H
        have c10b0 := eq_true c10
        have c10b1 : decide (0 ≤ a1) = true := decide_eq_true c10
        clear c10
        obtain ⟨ji11, hji11⟩ := let_j (shr .u32 (rd l0 x13_1) a1)
        (first | rw [hji11] at H | simp only [hji11] at H ⊢)
        have hji11_ : ((rd l0 x13_1) / 2 ^ min a1.toNat 32) = ji11 := hji11
        have hji11z : a1 ≤ 32 → ((rd l0 x13_1) / 2 ^ a1.toNat) = ji11 := shr_small hji11
        obtain ⟨t162, A12, H⟩ := bind_p H
        obtain ⟨ji13, hji13⟩ := let_j (wrap64 (32 - a1))
        (first | rw [hji13] at H | simp only [hji13] at H ⊢)
        (try rw [hji13] at A12)
        have hji13w : (IntKind.i64.wrap (32 - a1)) = ji13 := (i64_w _).trans hji13
        obtain ⟨c14, H⟩ := ite_p H
        have c14b0 := eq_true c14
        have c14b1 : decide (0 ≤ (ji13)) = true := decide_eq_true c14
        clear c14
        obtain ⟨ji15, hji15⟩ := let_j (shl .u64 t162 (ji13))
        (first | rw [hji15] at H | simp only [hji15] at H ⊢)
        (try rw [hji15] at A12)
        have hji15_ : (IntKind.u64.wrap (t162 * 2 ^ min (ji13).toNat 64)) = ji15 := hji15
        have hji15z : (ji13) ≤ 64 → (IntKind.u64.wrap (t162 * 2 ^ (ji13).toNat)) = ji15 := shl_small hji15
        obtain ⟨c16, H⟩ := ite_p H
        have c16b0 : decide (x13_1 < (x5_1.length : Int)) = true := decide_eq_true c16
        clear c16
        obtain ⟨y163, Ny163⟩ := let_p (x5_1.set (x13_1 : Int).toNat (Go.bits .or .u32 (ji11) ((ji15) % 4294967296)) : List Int)
        (first | rw [← Ny163.out] at H | simp only [← Ny163.out] at H)
        have H' := Aside0.mk H
        clear H
        have p161 : 0 ≤ (x13_1 : Int) := DA
        have q161 : x13_1 < (l0.length : Int) := DA
        obtain ⟨ad161, e161, hx161_0⟩ := Kd.at_int HR0.out x13_1 p161 q161
        cases e161
        replace hx161_0 := (HB.out.cell (World.block_lt_of_cell? w _ hx161_0)).trans hx161_0
        replace p161 := eq_true p161
        replace q161 := eq_true q161
        try go_wp2
        have n0_ := Aside0.mk (Kd.R_drew HO_5.out)
        have n1_ := Aside0.mk (below_drew1 HB.out)
        clear HO_5
        clear HB
        have HO_5 := n0_
        have HB := n1_
        clear n0_ n1_
        refine start_ (n := 16) (S := fun w' => True) (ds := [15]) #[false, false, false, false, false, false, false, false, false, false, false, false, false, false, false, false] (by kernel_rfl) rfl rfl trivial (fun hHeld => ?_); refine with_tabW nat_unshift.tab5 nat_unshift.bits5 (fun HT_ HW_ => ?_)
        generalize wr.drew = w18 at HO_5 HB hHeld ⊢
        refine pure_ (i := 0) (N := some 18) (v := ?_) (a' := ?_) #[true, false, false, false, false, false, false, false, false, false, false, false, false, false, false, false] rfl rfl (any_of HT_.out (by kernel_rfl)) (fun _ _ _ h => h) (Or.inl ⟨by rfl, ?_⟩) ?_ ?_
        rotate_left
        · intro w'
          go_simp
          with_reducible rfl
        rotate_left
        · simp only [Act.put, List.setIfInBounds_toArray, List.set_cons_zero, List.set_cons_succ, i64_w, i32_w]
          rfl
        refine pure_ (i := 1) (N := some 19) (v := ?_) (a' := ?_) #[true, true, false, false, false, false, false, false, false, false, false, false, false, false, false, false] rfl rfl (any_of HT_.out (by kernel_rfl)) (fun _ _ _ h => h) (Or.inl ⟨by rfl, ?_⟩) ?_ ?_
        rotate_left
        · intro w'
          go_simp
          with_reducible rfl
        rotate_left
        · simp only [Act.put, List.setIfInBounds_toArray, List.set_cons_zero, List.set_cons_succ, i64_w, i32_w]
          rfl
        refine pure_ (i := 2) (N := some 20) (v := ?_) (a' := ?_) #[true, true, true, false, false, false, false, false, false, false, false, false, false, false, false, false] rfl rfl (any_of HT_.out (by kernel_rfl)) (fun _ _ _ h => h) (Or.inl ⟨by rfl, ?_⟩) ?_ ?_
        rotate_left
        · intro w'
          go_simp
          with_reducible rfl
        rotate_left
        · simp only [Act.put, List.setIfInBounds_toArray, List.set_cons_zero, List.set_cons_succ, i64_w, i32_w]
          rfl
        refine pure_ (i := 3) (N := some 21) (v := ?_) (a' := ?_) #[true, true, true, true, false, false, false, false, false, false, false, false, false, false, false, false] rfl rfl (any_of HT_.out (by kernel_rfl)) (fun _ _ _ h => h) (Or.inl ⟨by rfl, ?_⟩) ?_ ?_
        rotate_left
        · intro w'
          go_simp
          with_reducible rfl
        rotate_left
        · simp only [Act.put, List.setIfInBounds_toArray, List.set_cons_zero, List.set_cons_succ, i64_w, i32_w]
          rfl
        refine pure_ (i := 4) (N := some 22) (v := ?_) (a' := ?_) #[true, true, true, true, true, false, false, false, false, false, false, false, false, false, false, false] rfl rfl (any_of HT_.out (by kernel_rfl)) (fun _ _ _ h => h) (Or.inl ⟨by rfl, ?_⟩) ?_ ?_
        rotate_left
        · intro w'
          go_simp
          with_reducible rfl
        rotate_left
        · simp only [Act.put, List.setIfInBounds_toArray, List.set_cons_zero, List.set_cons_succ, i64_w, i32_w]
          rfl
        refine pure_ (i := 5) (N := some 23) (v := ?_) (a' := ?_) #[true, true, true, true, true, true, false, false, false, false, false, false, false, false, false, false] rfl rfl (any_of HT_.out (by kernel_rfl)) (fun _ _ _ h => h) (Or.inl ⟨by rfl, ?_⟩) ?_ ?_
        rotate_left
        · intro w'
          go_simp
          with_reducible rfl
        rotate_left
        · simp only [Act.put, List.setIfInBounds_toArray, List.set_cons_zero, List.set_cons_succ, i64_w, i32_w]
          rfl
        refine pure_ (i := 6) (N := some 24) (v := ?_) (a' := ?_) #[true, true, true, true, true, true, true, false, false, false, false, false, false, false, false, false] rfl rfl (any_of HT_.out (by kernel_rfl)) (fun _ _ _ h => h) (Or.inl ⟨by rfl, ?_⟩) ?_ ?_
        rotate_left
        · intro w'
          go_simp
          with_reducible rfl
        rotate_left
        · simp only [Act.put, List.setIfInBounds_toArray, List.set_cons_zero, List.set_cons_succ, i64_w, i32_w]
          rfl
        refine pure_ (i := 7) (N := some 25) (v := ?_) (a' := ?_) #[true, true, true, true, true, true, true, true, false, false, false, false, false, false, false, false] rfl rfl (any_of HT_.out (by kernel_rfl)) (fun _ _ _ h => h) (Or.inl ⟨by rfl, ?_⟩) ?_ ?_
        rotate_left
        · intro w'
          go_simp
          with_reducible rfl
        rotate_left
        · simp only [Act.put, List.setIfInBounds_toArray, List.set_cons_zero, List.set_cons_succ, i64_w, i32_w]
          rfl
        refine pure_ (i := 9) (N := some 27) (v := ?_) (a' := ?_) #[true, true, true, true, true, true, true, true, false, true, false, false, false, false, false, false] rfl rfl (any_of HT_.out (by kernel_rfl)) (fun _ _ _ h => h) (Or.inl ⟨by rfl, ?_⟩) ?_ ?_
        rotate_left
        · intro w'
          go_simp
          with_reducible rfl
        rotate_left
        · simp only [Act.put, List.setIfInBounds_toArray, List.set_cons_zero, List.set_cons_succ, i64_w, i32_w]
          rfl
        refine pure_ (i := 10) (N := some 28) (v := ?_) (a' := ?_) #[true, true, true, true, true, true, true, true, false, true, true, false, false, false, false, false] rfl rfl (any_of HT_.out (by kernel_rfl)) (fun _ _ _ h => h) (Or.inl ⟨by rfl, ?_⟩) ?_ ?_
        rotate_left
        · intro w'
          go_simp
          with_reducible rfl
        rotate_left
        · simp only [Act.put, List.setIfInBounds_toArray, List.set_cons_zero, List.set_cons_succ, i64_w, i32_w]
          rfl
        refine one_ (i := 8) (N := some 26) #[true, true, true, true, true, true, true, true, true, true, true, false, false, false, false, false] rfl rfl (one_of HT_.out (by kernel_rfl)) (by decide) (fun K hK => ?_)
        refine goes_ Tryd.func73 (by kernel_rfl) rfl #[.slice (some ad161) l0.length c0, .int .i64 (wrap64 (x13_1 + 1))] (by rfl) rfl rfl (by (try simp only [List.map_toArray, List.map_cons, List.map_nil]); first | done | rfl | (exact congrArg (fun z_ => #[Value.int .u64 z_]) (u64_u8 _)) | (simp only [List.length_drop, List.length_take]; rfl)) ?_
        with_reducible refine (nat_at.calls _ _ l0 (wrap64 (x13_1 + 1)) t162 _ ?side1 ?side2 A12.out).mono ?_
        (case side1 => exact CB HR0)
        (case side2 => exact HC0.out)
        rintro e w' ⟨rfl, ⟨nd, rfl⟩⟩
        refine ⟨_, rfl, ?_⟩
        have p17 : 0 ≤ (x13_1 : Int) := DA
        have q17 : (x13_1 : Int) < ((x5_1.length : Int) : Int) := DA
        obtain ⟨go17, co17, eo17, gb17, gl17, cl17, HG17⟩ := Kd.R_form HO_5.out (by omega)
        (first | cases eo17 | (injection eo17 with ea_ en_ ec_; (first | subst ea_ | (injection ea_ with ea_; subst ea_)); subst ec_; clear en_))
        have GB17 := Aside0.mk gb17
        have GG17 := Aside0.mk HG17
        clear gb17 gl17 HG17
        obtain ⟨hx17_0, hf17_0⟩ := Kd.R_celln 0 HO_5.out (x13_1 : Int) p17 q17
        replace p17 := eq_true p17
        replace q17 := eq_true q17
        have HP19 := Kd.R_putn HO_5.out (x13_1 : Int) (Go.bits .or .u32 (ji11) ((ji15) % 4294967296))
        rw [← Ny163.out] at HP19
        have HQ19 := Aside0.mk HP19
        clear HP19
        refine hK.out _ _ trivial (fun hHeld => ?_)
        clear hK K
        refine norm_ (a' := ?_) ?_ ?_
        rotate_left
        · show Act.put _ (some 26) _ = _
          simp only [Act.put, List.setIfInBounds_toArray, List.set_cons_zero, List.set_cons_succ, i64_w, i32_w]
          rfl
        refine pure_ (i := 11) (N := some 29) (v := ?_) (a' := ?_) #[true, true, true, true, true, true, true, true, true, true, true, true, false, false, false, false] rfl rfl (any_of HT_.out (by kernel_rfl)) (fun _ _ _ h => h) (Or.inl ⟨by rfl, ?_⟩) ?_ ?_
        rotate_left
        · intro w'
          go_simp
          with_reducible rfl
        rotate_left
        · simp only [Act.put, List.setIfInBounds_toArray, List.set_cons_zero, List.set_cons_succ, i64_w, i32_w]
          rfl
        refine pure_ (i := 12) (N := some 30) (v := ?_) (a' := ?_) #[true, true, true, true, true, true, true, true, true, true, true, true, true, false, false, false] rfl rfl (any_of HT_.out (by kernel_rfl)) (fun _ _ _ h => h) (Or.inl ⟨by rfl, ?_⟩) ?_ ?_
        rotate_left
        · intro w'
          go_simp
          with_reducible rfl
        rotate_left
        · simp only [Act.put, List.setIfInBounds_toArray, List.set_cons_zero, List.set_cons_succ, i64_w, i32_w]
          rfl
        refine pure_ (i := 13) (N := some 31) (v := ?_) (a' := ?_) #[true, true, true, true, true, true, true, true, true, true, true, true, true, true, false, false] rfl rfl (any_of HT_.out (by kernel_rfl)) (fun _ _ _ h => h) (Or.inl ⟨by rfl, ?_⟩) ?_ ?_
        rotate_left
        · intro w'
          go_simp
          with_reducible rfl
        rotate_left
        · simp only [Act.put, List.setIfInBounds_toArray, List.set_cons_zero, List.set_cons_succ, i64_w, i32_w]
          rfl
        refine pure_ (i := 14) (N := some 32) (v := ?_) (a' := ?_) #[true, true, true, true, true, true, true, true, true, true, true, true, true, true, true, false] rfl rfl (any_of HT_.out (by kernel_rfl)) (fun _ _ _ h => h) (Or.inl ⟨by rfl, ?_⟩) ?_ ?_
        rotate_left
        · intro w'
          go_simp
          with_reducible rfl
        rotate_left
        · simp only [Act.put, List.setIfInBounds_toArray, List.set_cons_zero, List.set_cons_succ, i64_w, i32_w]
          rfl
        refine last_ (i := 15) (N := none) #[true, true, true, true, true, true, true, true, true, true, true, true, true, true, true, true] rfl rfl (one_of HT_.out (by kernel_rfl)) (by decide) (fun K hK => ?_)
        refine skip_ (w1 := ?_) (by rfl) rfl ?_ ?_
        rotate_left
        · go_simp
          rfl
        refine hK.out _ _ ?_
        clear hK K
        refine done_ (done_of HT_.out (by kernel_rfl)) ?_
        try go_wp2
        go_roundg k1
        case measure => have := HK1.out; omega
        case rel => exact ⟨(y163), (wrap64 (x13_1 + 1)), (by first | rfl | (simp; done) | (simp [*]; done) | (simp; exact isEmpty_bne _)), H', ⟨by have := HK1.out; omega⟩, ⟨by (with_reducible repeat (first | apply Kd.R_alloc | apply Kd.R_drewN | apply Kd.R_drew)); exact HQ19.out⟩, ⟨by repeat (first | (with_reducible first | exact HB.out | apply below_alloc | apply pw_below_drewN | apply below_drew1 | refine below_set ?_ GB17.out) | exact HB.out)⟩⟩
      · rw [if_neg c7] at H
        have c7b0 : decide (x13_1 < (l0.length : Int)) = false := decide_eq_false c7
        clear c7
        obtain rfl := Option.some.inj H
        go_wp2
        go_ret
        exact ⟨_, by first | rfl | (simp [errW_none, errW_some] <;> rfl) | (simp [*, errW_none, errW_some] <;> rfl), by (with_reducible repeat (first | apply Kd.R_alloc | apply Kd.R_drewN | apply Kd.R_drew)); exact HO_5.out, BL⟩

/-! ### nat_long: function 71 -/
def nat_long.T2 : Bool × List (List Nat × List Nat) := (true, [([], []), ([], []), ([0, 1], [0, 1]), ([], []), ([], []), ([3, 4, 2], [3, 4]), ([], []), ([6], [6]), ([5, 7], [5, 7]), ([2, 5, 0, 1, 2], [2]), ([8, 9, 0, 1, 2, 3, 4, 5, 6, 7, 8, 9], [8])])
def nat_long.B2 : List Nat := [0, 0, 3, 0, 0, 31, 0, 64, 255, 63, 1023]
theorem nat_long.tab2 : rtab .any (opsOf Tryd.f71 2) = nat_long.T2 := by kernel_rfl
theorem nat_long.bits2 : waitsOk nat_long.T2.2 nat_long.B2 = true := by kernel_rfl
set_option maxHeartbeats 8000000 in
set_option maxRecDepth 100000 in
theorem nat_long.calls (k : Nat) (A0 : Option Addr) (c0 : Nat) (l0 : List Int) (A1 : Option Addr) (c1 : Nat) (l1 : List Int) (r1 : List Int) (r2 : List Int) (w : World) (hr0 : Kd.C (Kd.int .u32) w A0 l0.length l0) (hc0 : l0.length ≤ c0) (hr1 : Kd.C (Kd.int .u32) w A1 l1.length l1) (hc1 : l1.length ≤ c1) (h : nat_long.f k l0 l1 = some (r1, r2)) :
    Calls Tryd.prog 71 #[.slice A0 l0.length c0, .slice A1 l1.length c1] w fun e w' => ∃ v0_ v1_ : Value, e = .returned (.tuple #[v0_, v1_]) ∧ Kd.R (Kd.int .u32) 34 w' w.heap.size (fun k_ => some k_ ≠ (v1_ : Value).ownBlock) v0_ r1 ∧ Kd.R (Kd.int .u32) 34 w' w.heap.size (fun k_ => some k_ ≠ (v0_ : Value).ownBlock) v1_ r2 ∧ Below w.heap.size w w' := by
  have HR0 := Aside0.mk hr0
  have HC0 := Aside0.mk hc0
  clear hr0 hc0
  have HR1 := Aside0.mk hr1
  have HC1 := Aside0.mk hc1
  clear hr1 hc1
  have HB := Aside0.mk (Below.refl w.heap.size w)
  have H : (if 0 ≤ (wrap64 ((l1.length : Int) - 1)) then (if (wrap64 ((l1.length : Int) - 1)) < (l1.length : Int) then ((bits_LeadingZeros32.f (rd l1 (wrap64 ((l1.length : Int) - 1)))).bind fun t165 => ((nat_shift.f k l0 t165).bind fun t166 => ((nat_shift.f k l1 t165).bind fun t169 => (if 0 ≤ (l1.length : Int) then (if (l1.length : Int) ≤ (t169.length : Int) then (if 0 ≤ (wrap64 ((wrap64 ((l0.length : Int) - (l1.length : Int))) + 1)) then (if (wrap64 ((wrap64 ((l0.length : Int) - (l1.length : Int))) + 1) : Int).toNat ≤ 70368744177664 then ((some (List.replicate (wrap64 ((wrap64 ((l0.length : Int) - (l1.length : Int))) + 1) : Int).toNat 0 : List Int)).bind fun y175 => (nat_long.l0 k t165 t166 (t169.take ((l1.length : Int) : Int).toNat) y175 (wrap64 ((y175.length : Int) - 1)))) else (none)) else (none)) else (none)) else (none))))) else (none)) else (none)) = some (r1, r2) := h
  clear h
  obtain ⟨ji3, hji3⟩ := let_j (wrap64 ((l1.length : Int) - 1))
  (first | rw [hji3] at H | simp only [hji3] at H ⊢)
  have hji3w : (IntKind.i64.wrap ((l1.length : Int) - 1)) = ji3 := (i64_w _).trans hji3
  obtain ⟨c4, H⟩ := ite_p H
  have c4b0 : decide (0 ≤ (ji3)) = true := decide_eq_true c4
  clear c4
  obtain ⟨c5, H⟩ := ite_p H
  have c5b0 : decide ((ji3) < (l1.length : Int)) = true := decide_eq_true c5
  clear c5
  obtain ⟨t165, A6, H⟩ := bind_p H
  obtain ⟨t166, A7, H⟩ := bind_p H
  obtain ⟨t169, A8, H⟩ := bind_p H
  obtain ⟨c9, H⟩ := ite_p H
  have c9b0 := eq_true c9
  have c9b1 : decide (0 ≤ (l1.length : Int)) = true := decide_eq_true c9
  clear c9
  obtain ⟨c10, H⟩ := ite_p H
  have c10b0 := eq_true c10
  have c10b1 : decide ((l1.length : Int) ≤ (t169.length : Int)) = true := decide_eq_true c10
  clear c10
  obtain ⟨y172, Ny172⟩ := let_p (t169.take ((l1.length : Int) : Int).toNat : List Int)
  (first | rw [← Ny172.out] at H | simp only [← Ny172.out] at H)
  obtain ⟨ji11, hji11⟩ := let_j (wrap64 ((wrap64 ((l0.length : Int) - (l1.length : Int))) + 1))
  (first | rw [hji11] at H | simp only [hji11] at H ⊢)
  (try rw [hji11] at A6)
  (try rw [hji11] at A7)
  (try rw [hji11] at A8)
  have hji11w : (IntKind.i64.wrap ((wrap64 ((l0.length : Int) - (l1.length : Int))) + 1)) = ji11 := (i64_w _).trans hji11
  obtain ⟨c12, H⟩ := ite_p H
  have c12b0 := eq_true c12
  have c12b1 : decide (0 ≤ (ji11)) = true := decide_eq_true c12
  clear c12
  obtain ⟨c13, H⟩ := ite_p H
  have c13b0 := eq_true c13
  have c13b1 : decide ((ji11 : Int).toNat ≤ 70368744177664) = true := decide_eq_true c13
  clear c13
  obtain ⟨y175, Ny175, H⟩ := some_p H
  have H' := Aside0.mk H
  clear H
  have p164 : 0 ≤ ((ji3) : Int) := DA
  have q164 : (ji3) < (l1.length : Int) := DA
  obtain ⟨ad164, e164, hx164_0⟩ := Kd.at_int HR1.out (ji3) p164 q164
  cases e164
  replace p164 := eq_true p164
  replace q164 := eq_true q164
  go_enter Tryd.func71, Tryd.ntmps71
  try go_wp2_with (first | ((with_reducible refine gate_callee (f := 78) rfl ?_); refine goesL_ (some 18) rfl rfl Tryd.func78 (by kernel_rfl) rfl #[.int .u32 (rd l1 (ji3))] rfl (by (try simp only [List.map_toArray, List.map_cons, List.map_nil]); first | done | (simp only [hji3]; rfl) | rfl | (simp only [List.length_drop, List.length_take]; rfl)) ?_; (with_reducible refine (bits_LeadingZeros32.calls (rd l1 (ji3)) t165 _ A6.out).mono ?_); rintro e w' ⟨rfl, ⟨nd, rfl⟩⟩; refine ⟨_, rfl, ?_⟩))
  generalize hq_ : World.drewN w _ = w14
  have n0_ := Aside0.mk (below_at hq_ HB.out)
  clear HB
  have HB := n0_
  clear n0_
  clear hq_
  have n0_ := Aside0.mk (below_drew1 HB.out)
  clear HB
  have HB := n0_
  clear n0_
  refine start_ (n := 11) (S := fun w' => True) (ds := []) #[false, false, false, false, false, false, false, false, false, false, false] (by kernel_rfl) rfl rfl trivial (fun hHeld => ?_); refine with_tabW nat_long.tab2 nat_long.bits2 (fun HT_ HW_ => ?_)
  generalize w14.drew = w15 at HB hHeld ⊢
  refine pure_ (i := 0) (N := some 19) (v := ?_) (a' := ?_) #[true, false, false, false, false, false, false, false, false, false, false] rfl rfl (any_of HT_.out (by kernel_rfl)) (fun _ _ _ h => h) (Or.inl ⟨by rfl, ?_⟩) ?_ ?_
  rotate_left
  · intro w'
    go_simp
    with_reducible rfl
  rotate_left
  · simp only [Act.put, List.setIfInBounds_toArray, List.set_cons_zero, List.set_cons_succ, i64_w, i32_w]
    rfl
  refine pure_ (i := 1) (N := some 20) (v := ?_) (a' := ?_) #[true, true, false, false, false, false, false, false, false, false, false] rfl rfl (any_of HT_.out (by kernel_rfl)) (fun _ _ _ h => h) (Or.inl ⟨by rfl, ?_⟩) ?_ ?_
  rotate_left
  · intro w'
    go_simp
    with_reducible rfl
  rotate_left
  · simp only [Act.put, List.setIfInBounds_toArray, List.set_cons_zero, List.set_cons_succ, i64_w, i32_w]
    rfl
  refine pure_ (i := 3) (N := some 22) (v := ?_) (a' := ?_) #[true, true, false, true, false, false, false, false, false, false, false] rfl rfl (any_of HT_.out (by kernel_rfl)) (fun _ _ _ h => h) (Or.inl ⟨by rfl, ?_⟩) ?_ ?_
  rotate_left
  · intro w'
    go_simp
    with_reducible rfl
  rotate_left
  · simp only [Act.put, List.setIfInBounds_toArray, List.set_cons_zero, List.set_cons_succ, i64_w, i32_w]
    rfl
  refine pure_ (i := 4) (N := some 23) (v := ?_) (a' := ?_) #[true, true, false, true, true, false, false, false, false, false, false] rfl rfl (any_of HT_.out (by kernel_rfl)) (fun _ _ _ h => h) (Or.inl ⟨by rfl, ?_⟩) ?_ ?_
  rotate_left
  · intro w'
    go_simp
    with_reducible rfl
  rotate_left
  · simp only [Act.put, List.setIfInBounds_toArray, List.set_cons_zero, List.set_cons_succ, i64_w, i32_w]
    rfl
  refine pure_ (i := 6) (N := some 25) (v := ?_) (a' := ?_) #[true, true, false, true, true, false, true, false, false, false, false] rfl rfl (any_of HT_.out (by kernel_rfl)) (fun _ _ _ h => h) (Or.inl ⟨by rfl, ?_⟩) ?_ ?_
  rotate_left
  · intro w'
    go_simp
    with_reducible rfl
  rotate_left
  · simp only [Act.put, List.setIfInBounds_toArray, List.set_cons_zero, List.set_cons_succ, i64_w, i32_w]
    rfl
  refine pure_ (i := 7) (N := some 26) (v := ?_) (a' := ?_) #[true, true, false, true, true, false, true, true, false, false, false] rfl rfl (any_of HT_.out (by kernel_rfl)) (fun _ _ _ h => h) (Or.inl ⟨by rfl, ?_⟩) ?_ ?_
  rotate_left
  · intro w'
    go_simp
    with_reducible rfl
  rotate_left
  · simp only [Act.put, List.setIfInBounds_toArray, List.set_cons_zero, List.set_cons_succ, i64_w, i32_w]
    rfl
  refine one_ (i := 2) (N := some 21) #[true, true, true, true, true, false, true, true, false, false, false] rfl rfl (one_of HT_.out (by kernel_rfl)) (by decide) (fun K hK => ?_)
  refine goes_ Tryd.func79 (by kernel_rfl) rfl #[.slice A0 l0.length c0, .int .i64 t165] (by rfl) rfl rfl (by (try simp only [List.map_toArray, List.map_cons, List.map_nil]); first | done | rfl | (exact congrArg (fun z_ => #[Value.int .u64 z_]) (u64_u8 _)) | (simp only [List.length_drop, List.length_take]; rfl)) ?_
  with_reducible refine (nat_shift.calls k _ _ l0 t165 t166 _ ?side1 ?side2 A7.out).mono ?_
  (case side1 => exact CB HR0)
  (case side2 => exact HC0.out)
  rintro e w16 ⟨v167, rfl, ho0, hb⟩
  refine ⟨_, rfl, ?_⟩
  have n0_ := Aside0.mk (Kd.R_lower ho0 (below_size BL))
  have n1_ := Aside0.mk (below_step BL hb)
  clear HB
  have HO168 := n0_
  have HB := n1_
  clear n0_ n1_
  (try clear hb)
  (try clear hb2)
  (try clear hk)
  (try clear hi)
  (try clear ho0)
  refine hK.out _ _ trivial (fun hHeld => ?_)
  clear hK K
  refine norm_ (a' := ?_) ?_ ?_
  rotate_left
  · show Act.put _ (some 21) _ = _
    simp only [Act.put, List.setIfInBounds_toArray, List.set_cons_zero, List.set_cons_succ, i64_w, i32_w]
    rfl
  refine one_ (i := 5) (N := some 24) #[true, true, true, true, true, true, true, true, false, false, false] rfl rfl (one_of HT_.out (by kernel_rfl)) (by decide) (fun K hK => ?_)
  refine goes_ Tryd.func79 (by kernel_rfl) rfl #[.slice (some ad164) l1.length c1, .int .i64 t165] (by rfl) rfl rfl (by (try simp only [List.map_toArray, List.map_cons, List.map_nil]); first | done | rfl | (exact congrArg (fun z_ => #[Value.int .u64 z_]) (u64_u8 _)) | (simp only [List.length_drop, List.length_take]; rfl)) ?_
  with_reducible refine (nat_shift.calls k _ _ l1 t165 t169 _ ?side1 ?side2 A8.out).mono ?_
  (case side1 => exact CB HR1)
  (case side2 => exact HC1.out)
  rintro e w17 ⟨v170, rfl, ho0, hb⟩
  refine ⟨_, rfl, ?_⟩
  have n0_ := Aside0.mk (Kd.R_elder' (RL HO168) (Kd.R_base ho0) hb)
  have n1_ := Aside0.mk (Kd.R_lower (Kd.R_new' ho0 (Kd.R_lt (RL HO168))) (below_size BL))
  have n2_ := Aside0.mk (below_step BL hb)
  clear HO168
  clear HB
  have HO168 := n0_
  have HO171 := n1_
  have HB := n2_
  clear n0_ n1_ n2_
  (try clear hb)
  (try clear hb2)
  (try clear hk)
  (try clear hi)
  (try clear ho0)
  obtain ⟨Ao18, co18, eo18⟩ := Kd.R_slice HO171.out
  (first | subst eo18 | (injection eo18 with f1_ f2_ f3_; have f4_ := f1_.symm; have f5_ := f3_.symm; clear f1_ f2_ f3_; subst f4_; subst f5_))
  have q19 : ((l1.length : Int) : Int) ≤ ((t169.length : Int) : Int) := DA
  obtain ⟨i019, hi019, _, hsz19, _⟩ := info_parts info34
  have hcut19 := cut_to (P := Tryd.prog) 22 34 .i64 Tryd.underlying22 hi019 Ao18 t169.length co18 (l1.length : Int) (DA) q19 (Kd.R_reads' HO171.out).2.1
  have hr19 := Kd.R_take (m := ((l1.length : Int) : Int).toNat) HO171.out (by omega)
  have hy19 : y172.length = ((l1.length : Int) : Int).toNat := (by rw [Ny172.out, List.length_take]; omega)
  rw [← Ny172.out] at hr19
  rw [← hy19] at hr19 hcut19
  clear hy19 hi019 hsz19 HO171
  have HO174 := Aside0.mk hr19
  clear hr19
  replace q19 := eq_true q19
  (try rw [ownBlock_len Ao18 t169.length y172.length co18 co18] at HO168)
  refine hK.out _ _ trivial (fun hHeld => ?_)
  clear hK K
  refine norm_ (a' := ?_) ?_ ?_
  rotate_left
  · show Act.put _ (some 24) _ = _
    simp only [Act.put, List.setIfInBounds_toArray, List.set_cons_zero, List.set_cons_succ, i64_w, i32_w]
    rfl
  refine pure_ (i := 8) (N := some 27) (v := ?_) (a' := ?_) #[true, true, true, true, true, true, true, true, true, false, false] rfl rfl (any_of HT_.out (by kernel_rfl)) (fun _ _ _ h => h) (Or.inl ⟨by rfl, ?_⟩) ?_ ?_
  rotate_left
  · intro w'
    go_simp
    with_reducible rfl
  rotate_left
  · simp only [Act.put, List.setIfInBounds_toArray, List.set_cons_zero, List.set_cons_succ, i64_w, i32_w]
    rfl
  refine pure_ (i := 9) (N := some 7) (v := ?_) (a' := ?_) #[true, true, true, true, true, true, true, true, true, true, false] rfl rfl (any_of HT_.out (by kernel_rfl)) (fun _ _ _ h => h) (Or.inl ⟨by rfl, ?_⟩) ?_ ?_
  rotate_left
  · intro w'
    go_simp
    with_reducible rfl
  rotate_left
  · simp only [Act.put, List.setIfInBounds_toArray, List.set_cons_zero, List.set_cons_succ, i64_w, i32_w]
    rfl
  refine pure_ (i := 10) (N := some 8) (v := ?_) (a' := ?_) #[true, true, true, true, true, true, true, true, true, true, true] rfl rfl (any_of HT_.out (by kernel_rfl)) (fun _ _ _ h => h) (Or.inl ⟨by rfl, ?_⟩) ?_ ?_
  rotate_left
  · intro w'
    go_simp
    with_reducible rfl
  rotate_left
  · simp only [Act.put, List.setIfInBounds_toArray, List.set_cons_zero, List.set_cons_succ, i64_w, i32_w]
    rfl
  refine done_ (done_of HT_.out (by kernel_rfl)) ?_
  try go_wp2_with (first | ((with_reducible refine gate_dst (N := 34) rfl ?_); refine Kd.R_make (Kd.int .u32) _ 34 rfl (N := 34) rfl 22 _ _ rfl ji11 rfl rfl Tryd.underlying22 (.int .u32 0) 4 info34 rfl (by decide) (by omega) 0 (ok := fun _ => True) (okp := fun _ => True) rfl (fun _ hk => hk) trivial (DA) (Nat.le_trans (Nat.mul_le_mul_right _ (DA : ji11.toNat ≤ 70368744177664)) (by omega)) (Below.refl _ _) (Nat.le_refl _) ?_; intro v176 w20 ho21 hb hg_ hnew_; clear hg_ hnew_; (first | rw [← Ny175.out] at ho21 | (simp only [Int.reduceToNat] at ho21; rw [← Ny175.out] at ho21)); have n0_ := Aside0.mk (Kd.R_elder' (RL HO168) (Kd.R_base ho21) hb); have n1_ := Aside0.mk (Kd.R_elder' (RL HO174) (Kd.R_base ho21) hb); have n2_ := Aside0.mk (Kd.R_lower (Kd.R_new' (Kd.R_new' ho21 (Kd.R_lt (RL HO168))) (Kd.R_lt (RL HO174))) (below_size BL)); have n3_ := Aside0.mk (below_step BL hb); clear HO168; clear HO174; clear HB; have HO168 := n0_; have HO174 := n1_; have HO177 := n2_; have HB := n3_; clear n0_ n1_ n2_ n3_; clear hb ho21; obtain ⟨Ao22, co22, eo22⟩ := Kd.R_slice HO177.out; subst eo22))
  go_loopg [10] k (fun kq v10 w' => ∃ (x7_1 : List Int) (x9_1 : List Int) (x10_1 : Int), v10 = .int .i64 x10_1 ∧ Aside0 (nat_long.l0 kq t165 x7_1 y172 x9_1 x10_1 = some (r1, r2)) ∧ Aside0 (kq ≤ k) ∧ Aside0 (Kd.R (Kd.int .u32) 34 w' w.heap.size (fun k_ => some k_ ≠ ((.slice Ao18 y172.length co18) : Value).ownBlock ∧ some k_ ≠ ((.slice Ao22 y175.length co22) : Value).ownBlock) v167 x7_1) ∧ Aside0 (Kd.R (Kd.int .u32) 34 w' w.heap.size (fun k_ => some k_ ≠ (v167 : Value).ownBlock ∧ some k_ ≠ ((.slice Ao22 y175.length co22) : Value).ownBlock) (.slice Ao18 y172.length co18) y172) ∧ Aside0 (Kd.R (Kd.int .u32) 34 w' w.heap.size (fun k_ => some k_ ≠ (v167 : Value).ownBlock ∧ some k_ ≠ ((.slice Ao18 y172.length co18) : Value).ownBlock) (.slice Ao22 y175.length co22) x9_1) ∧ Aside0 (Below w.heap.size w w'))
  case atStart => exact ⟨(t166), (y175), (wrap64 ((y175.length : Int) - 1)), (by first | rfl | (simp; done) | (simp [*]; done) | (simp; exact isEmpty_bne _)), H', ⟨Nat.le_refl _⟩, ⟨by (with_reducible repeat (first | apply Kd.R_alloc | apply Kd.R_drewN | apply Kd.R_drew)); exact Kd.R_mono HO168.out (fun _ hk => ⟨hk.1.2, hk.2⟩)⟩, ⟨by (with_reducible repeat (first | apply Kd.R_alloc | apply Kd.R_drewN | apply Kd.R_drew)); exact Kd.R_mono HO174.out (fun _ hk => ⟨hk.1.2, hk.2⟩)⟩, ⟨by (with_reducible repeat (first | apply Kd.R_alloc | apply Kd.R_drewN | apply Kd.R_drew)); exact Kd.R_mono HO177.out (fun _ hk => ⟨hk.1.2, hk.2⟩)⟩, ⟨BL⟩⟩
  case round =>
    clear H'
    try clear c1
    try clear p1
    try clear q1
    try clear hx1
    try clear p2
    try clear c4
    try clear c4b0
    try clear c5
    try clear c5b0
    try clear p6
    try clear c7
    try clear c9
    try clear c9b0
    try clear c9b1
    try clear c10
    try clear c10b0
    try clear c10b1
    try clear c12
    try clear c12b0
    try clear c12b1
    try clear c13
    try clear c13b0
    try clear c13b1
    try clear p16
    try clear q16
    try clear hx16
    try clear q19
    try clear hx164_0
    try clear p164
    try clear q164
    try clear q19
    obtain ⟨x7_1, x9_1, x10_1, rfl, HA, HK1, HO_7, HO_8, HO_9, HB⟩ := hrel
    have hl9_1 := (Kd.R_reads' HO_9.out).1
    rw [hl9_1] at HO_9
    (try simp only [hl9_1])
    (try simp only [hl9_1] at HO_7)
    (try simp only [hl9_1] at HO_8)
    cases gk with
    | zero => exact absurd HA.out (by simp [nat_long.l0])
    | succ k1 =>
      have H := HA.out
      clear HA
      simp only [nat_long.l0] at H
      by_cases c23 : x10_1 ≥ 0
      · rw [if_pos c23] at H
        have c23b0 : decide (0 ≤ x10_1) = true := decide_eq_true c23
        clear c23
        obtain ⟨t187, A24, H⟩ := bind_p H
        obtain ⟨⟨t188, t189⟩, A25, H⟩ := bind_p H
        dsimp only at H
        by_cases c26 : t188 = true
        · subst c26
          have H1 : ((nat_give.f k1 t189 y172 x10_1).bind fun t190 => (if 0 ≤ x10_1 then (if x10_1 < (x9_1.length : Int) then (nat_long.l0 k1 t165 t190 y172 (x9_1.set (x10_1 : Int).toNat ((IntKind.u64.wrap (t187 - 1)) % 4294967296)) (wrap64 (x10_1 - 1))) else (none)) else (none))) = some (r1, r2) := by rw [if_pos rfl] at H; exact H
          clear H
          have H := H1
          clear H1
          obtain ⟨t190, A27, H⟩ := bind_p H
          obtain ⟨c28, H⟩ := ite_p H
          have c28b0 : decide (0 ≤ x10_1) = true := decide_eq_true c28
          clear c28
          obtain ⟨c29, H⟩ := ite_p H
          have c29b0 : decide (x10_1 < (x9_1.length : Int)) = true := decide_eq_true c29
          (try (have c29h0 := c29b0; simp only [hl9_1] at c29h0))
          clear c29
          obtain ⟨y191, Ny191⟩ := let_p (x9_1.set (x10_1 : Int).toNat ((IntKind.u64.wrap (t187 - 1)) % 4294967296) : List Int)
          (first | rw [← Ny191.out] at H | simp only [← Ny191.out] at H)
          have H' := Aside0.mk H
          clear H
          obtain ⟨Ao31, co31, eo31⟩ := Kd.R_slice HO_7.out
          subst eo31
          go_wp2_with (first | ((with_reducible refine gate_callee (f := 80) rfl ?_); refine goesL_ (some 45) rfl rfl Tryd.func80 (by kernel_rfl) rfl #[.slice Ao31 x7_1.length co31, .slice Ao18 y172.length co18, .int .i64 x10_1] rfl EQ ?_; (with_reducible refine (nat_guess.calls k1 _ _ x7_1 _ _ y172 x10_1 t187 _ ?side1 ?side2 ?side3 ?side4 A24.out).mono ?_); (case side1 => exact RR HO_7); (case side2 => exact (Kd.R_reads' HO_7.out).2.1); (case side3 => exact RR HO_8); (case side4 => exact (Kd.R_reads' HO_8.out).2.1); rintro e w' ⟨rfl, ⟨nd, rfl⟩⟩; refine ⟨_, rfl, ?_⟩; (try (rw [drewN_self wr]; generalize hq_ : World.drewN wr _ = wr; have n0_ : Aside0 (Kd.R (Kd.int .u32) 34 wr w.heap.size (fun k_ => some k_ ≠ (.slice Ao18 y172.length co18 : Value).ownBlock ∧ some k_ ≠ (.slice Ao22 x9_1.length co22 : Value).ownBlock) (.slice Ao31 x7_1.length co31) x7_1) := ⟨by rw [← hq_]; exact (RL HO_7)⟩; have n1_ : Aside0 (Kd.R (Kd.int .u32) 34 wr w.heap.size (fun k_ => some k_ ≠ (.slice Ao31 x7_1.length co31 : Value).ownBlock ∧ some k_ ≠ (.slice Ao22 x9_1.length co22 : Value).ownBlock) (.slice Ao18 y172.length co18) y172) := ⟨by rw [← hq_]; exact (RL HO_8)⟩; have n2_ : Aside0 (Kd.R (Kd.int .u32) 34 wr w.heap.size (fun k_ => some k_ ≠ (.slice Ao31 x7_1.length co31 : Value).ownBlock ∧ some k_ ≠ (.slice Ao18 y172.length co18 : Value).ownBlock) (.slice Ao22 x9_1.length co22) x9_1) := ⟨by rw [← hq_]; exact (RL HO_9)⟩; have n3_ : Aside0 (Below w.heap.size w wr) := ⟨by rw [← hq_]; exact BL⟩; clear HO_7 HO_8 HO_9 HB hq_; have HO_7 := n0_; have HO_8 := n1_; have HO_9 := n2_; have HB := n3_; clear n0_ n1_ n2_ n3_))) | ((with_reducible refine gate_callee (f := 81) rfl ?_); refine goesL_ (some 50) rfl rfl Tryd.func81 (by kernel_rfl) rfl #[.slice Ao31 x7_1.length co31, .slice Ao18 y172.length co18, .int .i64 x10_1, .int .u64 t187] rfl EQ ?_; (with_reducible refine (nat_take.calls k1 (fun k_ => some k_ = (.slice Ao31 x7_1.length co31 : Value).ownBlock) (.slice Ao31 x7_1.length co31) x7_1 _ _ y172 x10_1 t187 true t189 w _ ?side1 ?side2 ?side3 ?side4 A25.out).mono ?_); (case side1 => repeat (first | (with_reducible first | exact HB.out | apply below_alloc | apply pw_below_drewN | apply below_drew1) | exact HB.out)); (case side2 => exact Kd.R_tight rfl HO_7.out); (case side3 => exact Kd.C_kept_own (HO_8.out) (fun k_ hk_ hs_ => (hk_.1) hs_)); (case side4 => exact (Kd.R_reads' HO_8.out).2.1); rintro e w32 ⟨rfl, hy0, hb, hkp⟩; refine ⟨_, rfl, ?_⟩; have n0_ := Aside0.mk (Kd.R_reok rfl hy0 (fun k_ e_ => HO_7.out.1 k_ e_)); have n1_ := Aside0.mk (Kd.R_mono (ok' := fun k_ => some k_ ≠ (.slice Ao31 x7_1.length co31 : Value).ownBlock ∧ some k_ ≠ (.slice Ao22 x9_1.length co22 : Value).ownBlock) (Kd.R_keptB (HO_8.out) hkp (fun k_ hk_ hs_ => (hk_.1) hs_)) (fun k_ hk_ => ⟨hk_.1.1, hk_.1.2⟩)); have n2_ := Aside0.mk (Kd.R_mono (ok' := fun k_ => some k_ ≠ (.slice Ao31 x7_1.length co31 : Value).ownBlock ∧ some k_ ≠ (.slice Ao18 y172.length co18 : Value).ownBlock) (Kd.R_keptB (HO_9.out) hkp (fun k_ hk_ hs_ => (hk_.1) hs_)) (fun k_ hk_ => ⟨hk_.1.1, hk_.1.2⟩)); have n3_ := Aside0.mk (hb); clear HO_7; clear HO_8; clear HO_9; clear HB; have HO_7 := n0_; have HO_8 := n1_; have HO_9 := n2_; have HB := n3_; clear n0_ n1_ n2_ n3_; (try clear hb); (try clear hkp); (try clear hy0)) | ((with_reducible refine gate_callee (f := 82) rfl ?_); refine goesL_ (some 56) rfl rfl Tryd.func82 (by kernel_rfl) rfl #[.slice Ao31 x7_1.length co31, .slice Ao18 y172.length co18, .int .i64 x10_1] rfl EQ ?_; (with_reducible refine (nat_give.calls k1 (fun k_ => some k_ = (.slice Ao31 x7_1.length co31 : Value).ownBlock) (.slice Ao31 x7_1.length co31) t189 _ _ y172 x10_1 t190 w _ ?side1 ?side2 ?side3 ?side4 A27.out).mono ?_); (case side1 => repeat (first | (with_reducible first | exact HB.out | apply below_alloc | apply pw_below_drewN | apply below_drew1) | exact HB.out)); (case side2 => exact Kd.R_tight rfl HO_7.out); (case side3 => exact Kd.C_kept_own (HO_8.out) (fun k_ hk_ hs_ => (hk_.1) hs_)); (case side4 => exact (Kd.R_reads' HO_8.out).2.1); rintro e w33 ⟨rfl, hy0, hb, hkp⟩; refine ⟨_, rfl, ?_⟩; have n0_ := Aside0.mk (Kd.R_reok rfl hy0 (fun k_ e_ => HO_7.out.1 k_ e_)); have n1_ := Aside0.mk (Kd.R_mono (ok' := fun k_ => some k_ ≠ (.slice Ao31 x7_1.length co31 : Value).ownBlock ∧ some k_ ≠ (.slice Ao22 x9_1.length co22 : Value).ownBlock) (Kd.R_keptB (HO_8.out) hkp (fun k_ hk_ hs_ => (hk_.1) hs_)) (fun k_ hk_ => ⟨hk_.1.1, hk_.1.2⟩)); have n2_ := Aside0.mk (Kd.R_mono (ok' := fun k_ => some k_ ≠ (.slice Ao31 x7_1.length co31 : Value).ownBlock ∧ some k_ ≠ (.slice Ao18 y172.length co18 : Value).ownBlock) (Kd.R_keptB (HO_9.out) hkp (fun k_ hk_ hs_ => (hk_.1) hs_)) (fun k_ hk_ => ⟨hk_.1.1, hk_.1.2⟩)); have n3_ := Aside0.mk (hb); clear HO_7; clear HO_8; clear HO_9; clear HB; have HO_7 := n0_; have HO_8 := n1_; have HO_9 := n2_; have HB := n3_; clear n0_ n1_ n2_ n3_; (try clear hb); (try clear hkp); (try clear hy0); have p30 : 0 ≤ (x10_1 : Int) := DA; have q30 : (x10_1 : Int) < ((x9_1.length : Int) : Int) := DA; obtain ⟨go30, co30, eo30, gb30, gl30, cl30, HG30⟩ := Kd.R_form HO_9.out (by omega); (first | cases eo30 | (injection eo30 with ea_ en_ ec_; (first | subst ea_ | (injection ea_ with ea_; subst ea_)); subst ec_; clear en_)); have GB30 := Aside0.mk gb30; have GG30 := Aside0.mk HG30; clear gb30 gl30 HG30; obtain ⟨hx30_0, hf30_0⟩ := Kd.R_celln 0 HO_9.out (x10_1 : Int) p30 q30; replace p30 := eq_true p30; replace q30 := eq_true q30; obtain ⟨hy34_, hz34_⟩ := Kd.R_celln 0 HO_9.out (x10_1 : Int) (DA) (DA); have HP34 := Kd.R_putg HO_9.out (x10_1 : Int) ((IntKind.u64.wrap (t187 - 1)) % 4294967296)) | ((with_reducible refine gate_store (t := 34) (p := 61) rfl ?_); refine store_event (t := 34) (p := 61) (v := ?vo_w35) (w1 := (w33.setCell ⟨go30, (x10_1 : Int).toNat, none⟩ (.int .u32 ((IntKind.u64.wrap (t187 - 1)) % 4294967296)))) ?hg ?ho ?hn ?hr ?_; (case ho => rfl); (case hg => rfl); (case hn => rfl); (case hr => first | (go_simp; done) | (go_simp; rfl)); intro w35 hw; have hg : w33.grownBy w35 (some go30) := (by rw [hw]; exact HP34.2); have hp_ : Kd.R (Kd.int .u32) 34 w35 w.heap.size (fun k_ => some k_ ≠ (.slice Ao31 x7_1.length co31 : Value).ownBlock ∧ some k_ ≠ (.slice Ao18 y172.length co18 : Value).ownBlock) (.slice (some ⟨go30, 0, none⟩) x9_1.length co22) y191 := (by rw [hw, Ny191.out]; exact HP34.1); clear HP34; have n0_ := Aside0.mk (Kd.R_after (v := (.slice (some ⟨go30, 0, none⟩) x9_1.length co22)) (v1 := (.slice (some ⟨go30, 0, none⟩) x9_1.length co22)) (ok := (fun k_ => some k_ ≠ (.slice Ao18 y172.length co18 : Value).ownBlock)) (RL HO_7) hg (.inl rfl)); have n1_ := Aside0.mk (Kd.R_after (v := (.slice (some ⟨go30, 0, none⟩) x9_1.length co22)) (v1 := (.slice (some ⟨go30, 0, none⟩) x9_1.length co22)) (ok := (fun k_ => some k_ ≠ (.slice Ao31 x7_1.length co31 : Value).ownBlock)) (RL HO_8) hg (.inl rfl)); have n2_ := Aside0.mk (hp_); have n3_ := Aside0.mk ((by rw [hw]; exact below_set (HB.out) GB30.out : Below w.heap.size w w35)); clear HO_7; clear HO_8; clear HO_9; clear HB; have HO_7 := n0_; have HO_8 := n1_; have HO_9 := n2_; have HB := n3_; clear n0_ n1_ n2_ n3_; clear hg hw hp_))
          (try simp only [← hl9_1])
          go_roundg k1
          case measure => have := HK1.out; omega
          case rel => exact ⟨(t190), (y191), (wrap64 (x10_1 - 1)), (by first | rfl | (simp; done) | (simp [*]; done) | (simp; exact isEmpty_bne _)), H', ⟨by have := HK1.out; omega⟩, ⟨by (try simp only [hl9_1]); (with_reducible repeat (first | apply Kd.R_alloc | apply Kd.R_drewN | apply Kd.R_drew)); exact HO_7.out⟩, ⟨by (try simp only [hl9_1]); (with_reducible repeat (first | apply Kd.R_alloc | apply Kd.R_drewN | apply Kd.R_drew)); exact HO_8.out⟩, ⟨by (try simp only [hl9_1]); (with_reducible repeat (first | apply Kd.R_alloc | apply Kd.R_drewN | apply Kd.R_drew)); exact HO_9.out⟩, ⟨BL⟩⟩
        · replace c26 := Bool.eq_false_iff.mpr c26
          subst c26
          have H1 : (if 0 ≤ x10_1 then (if x10_1 < (x9_1.length : Int) then (nat_long.l0 k1 t165 t189 y172 (x9_1.set (x10_1 : Int).toNat ((t187) % 4294967296)) (wrap64 (x10_1 - 1))) else (none)) else (none)) = some (r1, r2) := by rw [if_neg (show ¬ (false = true) by decide)] at H; exact H
          clear H
          have H := H1
          clear H1
          obtain ⟨c36, H⟩ := ite_p H
          have c36b0 : decide (0 ≤ x10_1) = true := decide_eq_true c36
          clear c36
          obtain ⟨c37, H⟩ := ite_p H
          have c37b0 : decide (x10_1 < (x9_1.length : Int)) = true := decide_eq_true c37
          (try (have c37h0 := c37b0; simp only [hl9_1] at c37h0))
          clear c37
          obtain ⟨y192, Ny192⟩ := let_p (x9_1.set (x10_1 : Int).toNat ((t187) % 4294967296) : List Int)
          (first | rw [← Ny192.out] at H | simp only [← Ny192.out] at H)
          have H' := Aside0.mk H
          clear H
          obtain ⟨Ao39, co39, eo39⟩ := Kd.R_slice HO_7.out
          subst eo39
          go_wp2_with (first | ((with_reducible refine gate_callee (f := 80) rfl ?_); refine goesL_ (some 45) rfl rfl Tryd.func80 (by kernel_rfl) rfl #[.slice Ao39 x7_1.length co39, .slice Ao18 y172.length co18, .int .i64 x10_1] rfl EQ ?_; (with_reducible refine (nat_guess.calls k1 _ _ x7_1 _ _ y172 x10_1 t187 _ ?side1 ?side2 ?side3 ?side4 A24.out).mono ?_); (case side1 => exact RR HO_7); (case side2 => exact (Kd.R_reads' HO_7.out).2.1); (case side3 => exact RR HO_8); (case side4 => exact (Kd.R_reads' HO_8.out).2.1); rintro e w' ⟨rfl, ⟨nd, rfl⟩⟩; refine ⟨_, rfl, ?_⟩; (try (rw [drewN_self wr]; generalize hq_ : World.drewN wr _ = wr; have n0_ : Aside0 (Kd.R (Kd.int .u32) 34 wr w.heap.size (fun k_ => some k_ ≠ (.slice Ao18 y172.length co18 : Value).ownBlock ∧ some k_ ≠ (.slice Ao22 x9_1.length co22 : Value).ownBlock) (.slice Ao39 x7_1.length co39) x7_1) := ⟨by rw [← hq_]; exact (RL HO_7)⟩; have n1_ : Aside0 (Kd.R (Kd.int .u32) 34 wr w.heap.size (fun k_ => some k_ ≠ (.slice Ao39 x7_1.length co39 : Value).ownBlock ∧ some k_ ≠ (.slice Ao22 x9_1.length co22 : Value).ownBlock) (.slice Ao18 y172.length co18) y172) := ⟨by rw [← hq_]; exact (RL HO_8)⟩; have n2_ : Aside0 (Kd.R (Kd.int .u32) 34 wr w.heap.size (fun k_ => some k_ ≠ (.slice Ao39 x7_1.length co39 : Value).ownBlock ∧ some k_ ≠ (.slice Ao18 y172.length co18 : Value).ownBlock) (.slice Ao22 x9_1.length co22) x9_1) := ⟨by rw [← hq_]; exact (RL HO_9)⟩; have n3_ : Aside0 (Below w.heap.size w wr) := ⟨by rw [← hq_]; exact BL⟩; clear HO_7 HO_8 HO_9 HB hq_; have HO_7 := n0_; have HO_8 := n1_; have HO_9 := n2_; have HB := n3_; clear n0_ n1_ n2_ n3_))) | ((with_reducible refine gate_callee (f := 81) rfl ?_); refine goesL_ (some 50) rfl rfl Tryd.func81 (by kernel_rfl) rfl #[.slice Ao39 x7_1.length co39, .slice Ao18 y172.length co18, .int .i64 x10_1, .int .u64 t187] rfl EQ ?_; (with_reducible refine (nat_take.calls k1 (fun k_ => some k_ = (.slice Ao39 x7_1.length co39 : Value).ownBlock) (.slice Ao39 x7_1.length co39) x7_1 _ _ y172 x10_1 t187 false t189 w _ ?side1 ?side2 ?side3 ?side4 A25.out).mono ?_); (case side1 => repeat (first | (with_reducible first | exact HB.out | apply below_alloc | apply pw_below_drewN | apply below_drew1) | exact HB.out)); (case side2 => exact Kd.R_tight rfl HO_7.out); (case side3 => exact Kd.C_kept_own (HO_8.out) (fun k_ hk_ hs_ => (hk_.1) hs_)); (case side4 => exact (Kd.R_reads' HO_8.out).2.1); rintro e w40 ⟨rfl, hy0, hb, hkp⟩; refine ⟨_, rfl, ?_⟩; have n0_ := Aside0.mk (Kd.R_reok rfl hy0 (fun k_ e_ => HO_7.out.1 k_ e_)); have n1_ := Aside0.mk (Kd.R_mono (ok' := fun k_ => some k_ ≠ (.slice Ao39 x7_1.length co39 : Value).ownBlock ∧ some k_ ≠ (.slice Ao22 x9_1.length co22 : Value).ownBlock) (Kd.R_keptB (HO_8.out) hkp (fun k_ hk_ hs_ => (hk_.1) hs_)) (fun k_ hk_ => ⟨hk_.1.1, hk_.1.2⟩)); have n2_ := Aside0.mk (Kd.R_mono (ok' := fun k_ => some k_ ≠ (.slice Ao39 x7_1.length co39 : Value).ownBlock ∧ some k_ ≠ (.slice Ao18 y172.length co18 : Value).ownBlock) (Kd.R_keptB (HO_9.out) hkp (fun k_ hk_ hs_ => (hk_.1) hs_)) (fun k_ hk_ => ⟨hk_.1.1, hk_.1.2⟩)); have n3_ := Aside0.mk (hb); clear HO_7; clear HO_8; clear HO_9; clear HB; have HO_7 := n0_; have HO_8 := n1_; have HO_9 := n2_; have HB := n3_; clear n0_ n1_ n2_ n3_; (try clear hb); (try clear hkp); (try clear hy0); have p38 : 0 ≤ (x10_1 : Int) := DA; have q38 : (x10_1 : Int) < ((x9_1.length : Int) : Int) := DA; obtain ⟨go38, co38, eo38, gb38, gl38, cl38, HG38⟩ := Kd.R_form HO_9.out (by omega); (first | cases eo38 | (injection eo38 with ea_ en_ ec_; (first | subst ea_ | (injection ea_ with ea_; subst ea_)); subst ec_; clear en_)); have GB38 := Aside0.mk gb38; have GG38 := Aside0.mk HG38; clear gb38 gl38 HG38; obtain ⟨hx38_0, hf38_0⟩ := Kd.R_celln 0 HO_9.out (x10_1 : Int) p38 q38; replace p38 := eq_true p38; replace q38 := eq_true q38; obtain ⟨hy41_, hz41_⟩ := Kd.R_celln 0 HO_9.out (x10_1 : Int) (DA) (DA); have HP41 := Kd.R_putg HO_9.out (x10_1 : Int) ((t187) % 4294967296)) | ((with_reducible refine gate_store (t := 34) (p := 61) rfl ?_); refine store_event (t := 34) (p := 61) (v := ?vo_w42) (w1 := (w40.setCell ⟨go38, (x10_1 : Int).toNat, none⟩ (.int .u32 ((t187) % 4294967296)))) ?hg ?ho ?hn ?hr ?_; (case ho => rfl); (case hg => rfl); (case hn => rfl); (case hr => first | (go_simp; done) | (go_simp; rfl)); intro w42 hw; have hg : w40.grownBy w42 (some go38) := (by rw [hw]; exact HP41.2); have hp_ : Kd.R (Kd.int .u32) 34 w42 w.heap.size (fun k_ => some k_ ≠ (.slice Ao39 x7_1.length co39 : Value).ownBlock ∧ some k_ ≠ (.slice Ao18 y172.length co18 : Value).ownBlock) (.slice (some ⟨go38, 0, none⟩) x9_1.length co22) y192 := (by rw [hw, Ny192.out]; exact HP41.1); clear HP41; have n0_ := Aside0.mk (Kd.R_after (v := (.slice (some ⟨go38, 0, none⟩) x9_1.length co22)) (v1 := (.slice (some ⟨go38, 0, none⟩) x9_1.length co22)) (ok := (fun k_ => some k_ ≠ (.slice Ao18 y172.length co18 : Value).ownBlock)) (RL HO_7) hg (.inl rfl)); have n1_ := Aside0.mk (Kd.R_after (v := (.slice (some ⟨go38, 0, none⟩) x9_1.length co22)) (v1 := (.slice (some ⟨go38, 0, none⟩) x9_1.length co22)) (ok := (fun k_ => some k_ ≠ (.slice Ao39 x7_1.length co39 : Value).ownBlock)) (RL HO_8) hg (.inl rfl)); have n2_ := Aside0.mk (hp_); have n3_ := Aside0.mk ((by rw [hw]; exact below_set (HB.out) GB38.out : Below w.heap.size w w42)); clear HO_7; clear HO_8; clear HO_9; clear HB; have HO_7 := n0_; have HO_8 := n1_; have HO_9 := n2_; have HB := n3_; clear n0_ n1_ n2_ n3_; clear hg hw hp_))
          (try simp only [← hl9_1])
          go_roundg k1
          case measure => have := HK1.out; omega
          case rel => exact ⟨(t189), (y192), (wrap64 (x10_1 - 1)), (by first | rfl | (simp; done) | (simp [*]; done) | (simp; exact isEmpty_bne _)), H', ⟨by have := HK1.out; omega⟩, ⟨by (try simp only [hl9_1]); (with_reducible repeat (first | apply Kd.R_alloc | apply Kd.R_drewN | apply Kd.R_drew)); exact HO_7.out⟩, ⟨by (try simp only [hl9_1]); (with_reducible repeat (first | apply Kd.R_alloc | apply Kd.R_drewN | apply Kd.R_drew)); exact HO_8.out⟩, ⟨by (try simp only [hl9_1]); (with_reducible repeat (first | apply Kd.R_alloc | apply Kd.R_drewN | apply Kd.R_drew)); exact HO_9.out⟩, ⟨BL⟩⟩
      · rw [if_neg c23] at H
        have c23b0 : decide (0 ≤ x10_1) = false := decide_eq_false c23
        clear c23
        obtain ⟨t178, A43, H⟩ := bind_p H
        obtain ⟨t181, A44, H⟩ := bind_p H
        obtain ⟨t184, A45, H⟩ := bind_p H
        simp only [Option.some.injEq, Prod.mk.injEq] at H
        obtain ⟨rfl, rfl⟩ := H
        go_wp2_with (first | ((with_reducible refine gate_callee (f := 56) rfl ?_); refine goesL_ (some 63) rfl rfl Tryd.func56 (by kernel_rfl) rfl #[.slice Ao22 x9_1.length co22] rfl EQ ?_; (with_reducible refine (nat_trim.calls k1 (fun k_ => some k_ = (.slice Ao22 x9_1.length co22 : Value).ownBlock) (.slice Ao22 x9_1.length co22) x9_1 t178 w _ ?side1 ?side2 A43.out).mono ?_); (case side1 => repeat (first | (with_reducible first | exact HB.out | apply below_alloc | apply pw_below_drewN | apply below_drew1) | exact HB.out)); (case side2 => exact Kd.R_tight rfl HO_9.out); rintro e w46 ⟨v179, rfl, ho0, hb, hkp⟩; refine ⟨_, rfl, ?_⟩; have n0_ := Aside0.mk (Kd.R_mono (ok' := fun k_ => some k_ ≠ (.slice Ao18 y172.length co18 : Value).ownBlock ∧ some k_ ≠ (v179 : Value).ownBlock) (Kd.R_keptB (HO_7.out) hkp (fun k_ hk_ hs_ => (hk_.2) hs_)) (fun k_ hk_ => ⟨hk_.1.1, fun e_ => Or.elim (ho0.1 k_ e_.symm) (fun hs_ => hk_.2.1 hs_) (fun hn_ => Nat.not_le.2 hk_.2.2 hn_)⟩)); have n1_ := Aside0.mk (Kd.R_mono (ok' := fun k_ => some k_ ≠ (v167 : Value).ownBlock ∧ some k_ ≠ (v179 : Value).ownBlock) (Kd.R_keptB (HO_8.out) hkp (fun k_ hk_ hs_ => (hk_.2) hs_)) (fun k_ hk_ => ⟨hk_.1.1, fun e_ => Or.elim (ho0.1 k_ e_.symm) (fun hs_ => hk_.2.1 hs_) (fun hn_ => Nat.not_le.2 hk_.2.2 hn_)⟩)); have n2_ := Aside0.mk (Kd.R_mono (ok' := fun k_ => some k_ ≠ (v167 : Value).ownBlock ∧ some k_ ≠ (.slice Ao18 y172.length co18 : Value).ownBlock) ho0 (fun k_ hk_ => ⟨Or.elim hk_ (fun hs_ => fun e_ => (((HO_7.out).1 k_ e_.symm).2) hs_) (fun hn_ => (Kd.fresh' (Kd.R_lt (RL HO_7)) k_ hn_)), Or.elim hk_ (fun hs_ => fun e_ => (((HO_8.out).1 k_ e_.symm).2) hs_) (fun hn_ => (Kd.fresh' (Kd.R_lt (RL HO_8)) k_ hn_))⟩)); have n3_ := Aside0.mk (hb); clear HO_7; clear HO_8; clear HB; clear HO_9; have HO_7 := n0_; have HO_8 := n1_; have HO180 := n2_; have HB := n3_; clear n0_ n1_ n2_ n3_; (try clear hb); (try clear hkp); (try clear ho0); obtain ⟨Ao47, co47, eo47⟩ := Kd.R_slice HO_7.out; subst eo47) | ((with_reducible refine gate_callee (f := 83) rfl ?_); refine goesL_ (some 66) rfl rfl Tryd.func83 (by kernel_rfl) rfl #[.slice Ao47 x7_1.length co47, .int .i64 t165] rfl EQ ?_; (with_reducible refine (nat_unshift.calls k1 _ _ x7_1 t165 t181 _ ?side1 ?side2 A44.out).mono ?_); (case side1 => exact RR HO_7); (case side2 => exact (Kd.R_reads' HO_7.out).2.1); rintro e w48 ⟨v182, rfl, ho0, hb⟩; refine ⟨_, rfl, ?_⟩; have n0_ := Aside0.mk (Kd.R_elder' (RL HO_7) (Kd.R_base ho0) hb); have n1_ := Aside0.mk (Kd.R_elder' (RL HO_8) (Kd.R_base ho0) hb); have n2_ := Aside0.mk (Kd.R_elder' (RL HO180) (Kd.R_base ho0) hb); have n3_ := Aside0.mk (Kd.R_lower (Kd.R_new' (Kd.R_new' (Kd.R_new' ho0 (Kd.R_lt (RL HO_7))) (Kd.R_lt (RL HO_8))) (Kd.R_lt (RL HO180))) (below_size BL)); have n4_ := Aside0.mk (below_step BL hb); clear HO_7; clear HO_8; clear HO180; clear HB; have HO_7 := n0_; have HO_8 := n1_; have HO180 := n2_; have HO183 := n3_; have HB := n4_; clear n0_ n1_ n2_ n3_ n4_; (try clear hb); (try clear hb2); (try clear hk); (try clear hi); (try clear ho0); obtain ⟨Ao49, co49, eo49⟩ := Kd.R_slice HO183.out; subst eo49) | ((with_reducible refine gate_callee (f := 56) rfl ?_); refine goesL_ (some 67) rfl rfl Tryd.func56 (by kernel_rfl) rfl #[.slice Ao49 t181.length co49] rfl EQ ?_; (with_reducible refine (nat_trim.calls k1 (fun k_ => some k_ = (.slice Ao49 t181.length co49 : Value).ownBlock) (.slice Ao49 t181.length co49) t181 t184 w _ ?side1 ?side2 A45.out).mono ?_); (case side1 => repeat (first | (with_reducible first | exact HB.out | apply below_alloc | apply pw_below_drewN | apply below_drew1) | exact HB.out)); (case side2 => exact Kd.R_tight rfl HO183.out); rintro e w50 ⟨v185, rfl, ho0, hb, hkp⟩; refine ⟨_, rfl, ?_⟩; have n0_ := Aside0.mk (Kd.R_mono (ok' := fun k_ => some k_ ≠ (.slice Ao18 y172.length co18 : Value).ownBlock ∧ some k_ ≠ (v179 : Value).ownBlock ∧ some k_ ≠ (v185 : Value).ownBlock) (Kd.R_keptB (HO_7.out) hkp (fun k_ hk_ hs_ => (hk_.2) hs_)) (fun k_ hk_ => ⟨hk_.1.1.1, hk_.1.1.2, fun e_ => Or.elim (ho0.1 k_ e_.symm) (fun hs_ => hk_.2.1 hs_) (fun hn_ => Nat.not_le.2 hk_.2.2 hn_)⟩)); have n1_ := Aside0.mk (Kd.R_mono (ok' := fun k_ => some k_ ≠ (.slice Ao47 x7_1.length co47 : Value).ownBlock ∧ some k_ ≠ (v179 : Value).ownBlock ∧ some k_ ≠ (v185 : Value).ownBlock) (Kd.R_keptB (HO_8.out) hkp (fun k_ hk_ hs_ => (hk_.2) hs_)) (fun k_ hk_ => ⟨hk_.1.1.1, hk_.1.1.2, fun e_ => Or.elim (ho0.1 k_ e_.symm) (fun hs_ => hk_.2.1 hs_) (fun hn_ => Nat.not_le.2 hk_.2.2 hn_)⟩)); have n2_ := Aside0.mk (Kd.R_mono (ok' := fun k_ => some k_ ≠ (.slice Ao47 x7_1.length co47 : Value).ownBlock ∧ some k_ ≠ (.slice Ao18 y172.length co18 : Value).ownBlock ∧ some k_ ≠ (v185 : Value).ownBlock) (Kd.R_keptB (HO180.out) hkp (fun k_ hk_ hs_ => (hk_.2) hs_)) (fun k_ hk_ => ⟨hk_.1.1.1, hk_.1.1.2, fun e_ => Or.elim (ho0.1 k_ e_.symm) (fun hs_ => hk_.2.1 hs_) (fun hn_ => Nat.not_le.2 hk_.2.2 hn_)⟩)); have n3_ := Aside0.mk (Kd.R_mono (ok' := fun k_ => some k_ ≠ (.slice Ao47 x7_1.length co47 : Value).ownBlock ∧ some k_ ≠ (.slice Ao18 y172.length co18 : Value).ownBlock ∧ some k_ ≠ (v179 : Value).ownBlock) ho0 (fun k_ hk_ => ⟨Or.elim hk_ (fun hs_ => fun e_ => (((HO_7.out).1 k_ e_.symm).2) hs_) (fun hn_ => (Kd.fresh' (Kd.R_lt (RL HO_7)) k_ hn_)), Or.elim hk_ (fun hs_ => fun e_ => (((HO_8.out).1 k_ e_.symm).2) hs_) (fun hn_ => (Kd.fresh' (Kd.R_lt (RL HO_8)) k_ hn_)), Or.elim hk_ (fun hs_ => fun e_ => (((HO180.out).1 k_ e_.symm).2) hs_) (fun hn_ => (Kd.fresh' (Kd.R_lt (RL HO180)) k_ hn_))⟩)); have n4_ := Aside0.mk (hb); clear HO_7; clear HO_8; clear HO180; clear HB; clear HO183; have HO_7 := n0_; have HO_8 := n1_; have HO180 := n2_; have HO186 := n3_; have HB := n4_; clear n0_ n1_ n2_ n3_ n4_; (try clear hb); (try clear hkp); (try clear ho0)))
        go_ret2
        exact ⟨_, _, by first | rfl | (simp [errW_none, errW_some] <;> rfl) | (simp only [← hji3, ← hji11]; first | rfl | (simp [errW_none, errW_some] <;> rfl)) | (simp [*, errW_none, errW_some] <;> rfl), by (with_reducible repeat (first | apply Kd.R_alloc | apply Kd.R_drewN | apply Kd.R_drew)); exact Kd.R_mono HO180.out (fun _ hk => hk.2.2), by (with_reducible repeat (first | apply Kd.R_alloc | apply Kd.R_drewN | apply Kd.R_drew)); exact Kd.R_mono HO186.out (fun _ hk => hk.2.2), BL⟩

/-! ### nat_split: function 61 -/
set_option maxHeartbeats 8000000 in
set_option maxRecDepth 100000 in
theorem nat_split.calls (k : Nat) (A0 : Option Addr) (c0 : Nat) (l0 : List Int) (A1 : Option Addr) (c1 : Nat) (l1 : List Int) (r1 : List Int) (r2 : List Int) (w : World) (hr0 : Kd.C (Kd.int .u32) w A0 l0.length l0) (hc0 : l0.length ≤ c0) (hr1 : Kd.C (Kd.int .u32) w A1 l1.length l1) (hc1 : l1.length ≤ c1) (h : nat_split.f k l0 l1 = some (r1, r2)) :
    Calls Tryd.prog 61 #[.slice A0 l0.length c0, .slice A1 l1.length c1] w fun e w' => ∃ v0_ v1_ : Value, e = .returned (.tuple #[v0_, v1_]) ∧ Kd.R (Kd.int .u32) 34 w' w.heap.size (fun k_ => some k_ ≠ (v1_ : Value).ownBlock) v0_ r1 ∧ Kd.R (Kd.int .u32) 34 w' w.heap.size (fun k_ => some k_ ≠ (v0_ : Value).ownBlock) v1_ r2 ∧ Below w.heap.size w w' := by
  have HR0 := Aside0.mk hr0
  have HC0 := Aside0.mk hc0
  clear hr0 hc0
  have HR1 := Aside0.mk hr1
  have HC1 := Aside0.mk hc1
  clear hr1 hc1
  have HB := Aside0.mk (Below.refl w.heap.size w)
  have H : ((nat_order.f k l0 l1).bind fun t193 => (if t193 < 0 then ((api_Nat_uint32.f l0).bind fun t194 => (some (([] : List Int), t194))) else (if (l1.length : Int) = 1 then (if 0 < (l1.length : Int) then ((nat_short.f k l0 (rd l1 0)).bind fun bt198 => ((nat_Of.f k (IntKind.u64.wrap (bt198.2))).bind fun t202 => (some (bt198.1, t202)))) else (none)) else ((nat_long.f k l0 l1).bind fun bt205 => (some (bt205.1, bt205.2)))))) = some (r1, r2) := h
  clear h
  obtain ⟨t193, A3, H⟩ := bind_p H
  by_cases c4 : t193 < 0
  · rw [if_pos c4] at H
    have c4b0 : decide (t193 < 0) = true := decide_eq_true c4
    clear c4
    obtain ⟨t194, A5, H⟩ := bind_p H
    simp only [Option.some.injEq, Prod.mk.injEq] at H
    obtain ⟨rfl, rfl⟩ := H
    go_enter Tryd.func61, Tryd.ntmps61
    go_wp2_with (first | ((with_reducible refine gate_callee (f := 63) rfl ?_); refine goesL_ (some 11) rfl rfl Tryd.func63 (by kernel_rfl) rfl #[.slice A0 l0.length c0, .slice A1 l1.length c1] rfl EQ ?_; (with_reducible refine (nat_order.calls k _ _ l0 _ _ l1 t193 _ ?side1 ?side2 ?side3 ?side4 A3.out).mono ?_); (case side1 => repeat (first | exact HR0.out | (with_reducible refine Kd.C_alloc ?_ _) | (with_reducible refine Kd.C_drewN ?_ _) | (with_reducible refine Kd.C_drew ?_))); (case side2 => exact HC0.out); (case side3 => repeat (first | exact HR1.out | (with_reducible refine Kd.C_alloc ?_ _) | (with_reducible refine Kd.C_drewN ?_ _) | (with_reducible refine Kd.C_drew ?_))); (case side4 => exact HC1.out); rintro e w6 ⟨rfl, hb⟩; refine ⟨_, rfl, ?_⟩; have n0_ := Aside0.mk (below_step BL hb); clear HB; have HB := n0_; clear n0_; (try clear hb); (try clear hb2); (try clear hk); (try clear hi)) | ((with_reducible refine gate_callee (f := 62) rfl ?_); refine goesL_ (some 14) rfl rfl Tryd.func62 (by kernel_rfl) rfl #[.slice A0 l0.length c0] rfl EQ ?_; (with_reducible refine (api_Nat_uint32.calls _ _ l0 t194 _ ?side1 ?side2 A5.out).mono ?_); (case side1 => exact CB HR0); (case side2 => exact HC0.out); rintro e w7 ⟨v195, rfl, ho0, hb⟩; refine ⟨_, rfl, ?_⟩; have n0_ := Aside0.mk (Kd.R_lower ho0 (below_size BL)); have n1_ := Aside0.mk (below_step BL hb); clear HB; have HO196 := n0_; have HB := n1_; clear n0_ n1_; (try clear hb); (try clear hb2); (try clear hk); (try clear hi); (try clear ho0)))
    go_ret2
    exact ⟨_, _, by first | rfl | (simp [errW_none, errW_some] <;> rfl) | (simp [*, errW_none, errW_some] <;> rfl), by first | exact Kd.R_nil _ _ _ _ _ | exact Kd.N_nil _ _ _ _ _ | exact Kd.V_nil _ _ _ _ _ | exact Kd.Q_nil _ _ _ _ _ | exact Kd.S_nil _ _ _ _ _, by (with_reducible repeat (first | apply Kd.R_alloc | apply Kd.R_drewN | apply Kd.R_drew)); exact Kd.R_mono HO196.out (fun _ hk => (by simp [Value.ownBlock])), BL⟩
  · rw [if_neg c4] at H
    have c4b0 : decide (t193 < 0) = false := decide_eq_false c4
    clear c4
    by_cases c8 : (l1.length : Int) = 1
    · rw [if_pos c8] at H
      have c8b0 : ((l1.length : Int) == 1) = true := beq_iff_eq.mpr c8
      have c8b1 : ((l1.length : Int) != 1) = false := bne_eq_false_iff_eq.mpr c8
      clear c8
      obtain ⟨c9, H⟩ := ite_p H
      have c9b0 : decide (0 < (l1.length : Int)) = true := decide_eq_true c9
      have c9b1 : decide (0 < l1.length) = true := decide_eq_true (by omega)
      clear c9
      obtain ⟨⟨t198, t199⟩, A10, H⟩ := bind_p H
      dsimp only at H
      obtain ⟨t202, A11, H⟩ := bind_p H
      simp only [Option.some.injEq, Prod.mk.injEq] at H
      obtain ⟨rfl, rfl⟩ := H
      go_enter Tryd.func61, Tryd.ntmps61
      go_wp2_with (first | ((with_reducible refine gate_callee (f := 63) rfl ?_); refine goesL_ (some 11) rfl rfl Tryd.func63 (by kernel_rfl) rfl #[.slice A0 l0.length c0, .slice A1 l1.length c1] rfl EQ ?_; (with_reducible refine (nat_order.calls k _ _ l0 _ _ l1 t193 _ ?side1 ?side2 ?side3 ?side4 A3.out).mono ?_); (case side1 => repeat (first | exact HR0.out | (with_reducible refine Kd.C_alloc ?_ _) | (with_reducible refine Kd.C_drewN ?_ _) | (with_reducible refine Kd.C_drew ?_))); (case side2 => exact HC0.out); (case side3 => repeat (first | exact HR1.out | (with_reducible refine Kd.C_alloc ?_ _) | (with_reducible refine Kd.C_drewN ?_ _) | (with_reducible refine Kd.C_drew ?_))); (case side4 => exact HC1.out); rintro e w12 ⟨rfl, hb⟩; refine ⟨_, rfl, ?_⟩; have n0_ := Aside0.mk (below_step BL hb); clear HB; have HB := n0_; clear n0_; (try clear hb); (try clear hb2); (try clear hk); (try clear hi); have p197 : 0 ≤ (0 : Int) := (by omega); have q197 : 0 < (l1.length : Int) := DA; obtain ⟨ad197, e197, hx197_0⟩ := Kd.at_int HR1.out 0 p197 q197; cases e197; have qi197 : (0 < l1.length) = True := eq_true (by omega); (try rw [show ((0 : Int)).toNat = 0 from rfl] at hx197_0); (try rw [Addr.add_zero'] at hx197_0); replace hx197_0 := (HB.out.cell (World.block_lt_of_cell? w _ hx197_0)).trans hx197_0; replace p197 := eq_true p197; replace q197 := eq_true q197) | ((with_reducible refine gate_callee (f := 68) rfl ?_); refine goesL_ (some 24) rfl rfl Tryd.func68 (by kernel_rfl) rfl #[.slice A0 l0.length c0, .int .u32 (rd l1 0)] rfl EQ ?_; (with_reducible refine (nat_short.calls k _ _ l0 (rd l1 0) t198 t199 _ ?side1 ?side2 A10.out).mono ?_); (case side1 => exact CB HR0); (case side2 => exact HC0.out); rintro e w13 ⟨v200, rfl, ho0, hb⟩; refine ⟨_, rfl, ?_⟩; have n0_ := Aside0.mk (Kd.R_lower ho0 (below_size BL)); have n1_ := Aside0.mk (below_step BL hb); clear HB; have HO201 := n0_; have HB := n1_; clear n0_ n1_; (try clear hb); (try clear hb2); (try clear hk); (try clear hi); (try clear ho0)) | ((with_reducible refine gate_callee (f := 35) rfl ?_); refine goesL_ (some 30) rfl rfl Tryd.func35 (by kernel_rfl) rfl #[.int .u64 (IntKind.u64.wrap (t199))] rfl EQ ?_; (with_reducible refine (nat_Of.calls k (IntKind.u64.wrap (t199)) t202 _ A11.out).mono ?_); rintro e w14 ⟨v203, rfl, ho0, hb⟩; refine ⟨_, rfl, ?_⟩; have n0_ := Aside0.mk (Kd.R_elder' (RL HO201) (Kd.R_base ho0) hb); have n1_ := Aside0.mk (Kd.R_lower (Kd.R_new' ho0 (Kd.R_lt (RL HO201))) (below_size BL)); have n2_ := Aside0.mk (below_step BL hb); clear HO201; clear HB; have HO201 := n0_; have HO204 := n1_; have HB := n2_; clear n0_ n1_ n2_; (try clear hb); (try clear hb2); (try clear hk); (try clear hi); (try clear ho0)))
      go_ret2
      exact ⟨_, _, by first | rfl | (simp [errW_none, errW_some] <;> rfl) | (simp [*, errW_none, errW_some] <;> rfl), by (with_reducible repeat (first | apply Kd.R_alloc | apply Kd.R_drewN | apply Kd.R_drew)); exact Kd.R_mono HO201.out (fun _ hk => hk.2), by (with_reducible repeat (first | apply Kd.R_alloc | apply Kd.R_drewN | apply Kd.R_drew)); exact Kd.R_mono HO204.out (fun _ hk => hk.2), BL⟩
    · rw [if_neg c8] at H
      have c8b0 : ((l1.length : Int) == 1) = false := beq_eq_false_iff_ne.mpr c8
      have c8b1 : ((l1.length : Int) != 1) = true := bne_iff_ne.mpr c8
      obtain ⟨⟨t205, t206⟩, A15, H⟩ := bind_p H
      dsimp only at H
      simp only [Option.some.injEq, Prod.mk.injEq] at H
      obtain ⟨rfl, rfl⟩ := H
      go_enter Tryd.func61, Tryd.ntmps61
      go_wp2_with (first | ((with_reducible refine gate_callee (f := 63) rfl ?_); refine goesL_ (some 11) rfl rfl Tryd.func63 (by kernel_rfl) rfl #[.slice A0 l0.length c0, .slice A1 l1.length c1] rfl EQ ?_; (with_reducible refine (nat_order.calls k _ _ l0 _ _ l1 t193 _ ?side1 ?side2 ?side3 ?side4 A3.out).mono ?_); (case side1 => repeat (first | exact HR0.out | (with_reducible refine Kd.C_alloc ?_ _) | (with_reducible refine Kd.C_drewN ?_ _) | (with_reducible refine Kd.C_drew ?_))); (case side2 => exact HC0.out); (case side3 => repeat (first | exact HR1.out | (with_reducible refine Kd.C_alloc ?_ _) | (with_reducible refine Kd.C_drewN ?_ _) | (with_reducible refine Kd.C_drew ?_))); (case side4 => exact HC1.out); rintro e w16 ⟨rfl, hb⟩; refine ⟨_, rfl, ?_⟩; have n0_ := Aside0.mk (below_step BL hb); clear HB; have HB := n0_; clear n0_; (try clear hb); (try clear hb2); (try clear hk); (try clear hi)) | ((with_reducible refine gate_callee (f := 71) rfl ?_); refine goesL_ (some 33) rfl rfl Tryd.func71 (by kernel_rfl) rfl #[.slice A0 l0.length c0, .slice A1 l1.length c1] rfl EQ ?_; (with_reducible refine (nat_long.calls k _ _ l0 _ _ l1 t205 t206 _ ?side1 ?side2 ?side3 ?side4 A15.out).mono ?_); (case side1 => exact CB HR0); (case side2 => exact HC0.out); (case side3 => exact CB HR1); (case side4 => exact HC1.out); rintro e w17 ⟨v207, v209, rfl, ho0, ho1, hb⟩; refine ⟨_, rfl, ?_⟩; have n0_ := Aside0.mk (Kd.R_lower ho0 (below_size BL)); have n1_ := Aside0.mk (Kd.R_lower ho1 (below_size BL)); have n2_ := Aside0.mk (below_step BL hb); clear HB; have HO208 := n0_; have HO210 := n1_; have HB := n2_; clear n0_ n1_ n2_; (try clear hb); (try clear hb2); (try clear hk); (try clear hi); (try clear ho0); (try clear ho1)))
      go_ret2
      exact ⟨_, _, by first | rfl | (simp [errW_none, errW_some] <;> rfl) | (simp [*, errW_none, errW_some] <;> rfl), by (with_reducible repeat (first | apply Kd.R_alloc | apply Kd.R_drewN | apply Kd.R_drew)); exact HO208.out, by (with_reducible repeat (first | apply Kd.R_alloc | apply Kd.R_drewN | apply Kd.R_drew)); exact HO210.out, BL⟩

/-! ### nat_Gcd: function 40 -/
set_option maxHeartbeats 8000000 in
set_option maxRecDepth 100000 in
theorem nat_Gcd.calls (k : Nat) (P0_ : Nat → Prop) (A0 : Option Addr) (c0 : Nat) (l0 : List Int) (P1_ : Nat → Prop) (A1 : Option Addr) (c1 : Nat) (l1 : List Int) (r1 : List Int) (r2 : Int) (w : World) (hs0 : Kd.V (Kd.int .u32) 34 w w.heap.size (fun k_ => P0_ k_) (.slice A0 l0.length c0) l0) (hs1 : Kd.V (Kd.int .u32) 34 w w.heap.size (fun k_ => P1_ k_) (.slice A1 l1.length c1) l1) (h : nat_Gcd.f k l0 l1 = some (r1, r2)) :
    Calls Tryd.prog 40 #[.slice A0 l0.length c0, .slice A1 l1.length c1] w fun e w' => ∃ v0_ : Value, e = .returned (.tuple #[v0_, .int .i64 r2]) ∧ Kd.R (Kd.int .u32) 34 w' w.heap.size (fun k_ => (w.heap.size ≤ k_)) v0_ r1 ∧ Below w.heap.size w w' := by
  have HO0 := Aside0.mk (show Kd.V (Kd.int .u32) 34 w w.heap.size (fun k_ => ((P0_ k_ ∨ P1_ k_) ∨ w.heap.size ≤ k_)) (.slice A0 l0.length c0) l0 from Kd.V_mono hs0 (fun k_ hk => .inl (.inl hk)))
  have HO1 := Aside0.mk (show Kd.V (Kd.int .u32) 34 w w.heap.size (fun k_ => ((P0_ k_ ∨ P1_ k_) ∨ w.heap.size ≤ k_)) (.slice A1 l1.length c1) l1 from Kd.V_mono hs1 (fun k_ hk => .inl (.inr hk)))
  have HB := Aside0.mk (Below.refl w.heap.size w)
  have H : ((nat_Right.f l0).bind fun t211 => (if t211 = true then ((nat_Right.f l1).bind fun t212 => (nat_Gcd.j0 k l0 l1 (!t212))) else (nat_Gcd.j0 k l0 l1 true))) = some (r1, r2) := h
  clear h
  have HC3 := Aside0.mk H
  clear H
  go_enter Tryd.func40, Tryd.ntmps40
  go_upto_region 1 with (fail)
  go_cut [15] (fun v15 wc => ∃ (kq : Nat) (x15_2 : Bool), v15 = .bool x15_2 ∧ Aside0 (nat_Gcd.j0 kq l0 l1 x15_2 = some (r1, r2)) ∧ Aside0 (kq ≤ k) ∧ Aside0 (Kd.V (Kd.int .u32) 34 wc w.heap.size (fun k_ => ((P0_ k_ ∨ P1_ k_) ∨ w.heap.size ≤ k_)) (.slice A0 l0.length c0) l0) ∧ Aside0 (Kd.V (Kd.int .u32) 34 wc w.heap.size (fun k_ => ((P0_ k_ ∨ P1_ k_) ∨ w.heap.size ≤ k_)) (.slice A1 l1.length c1) l1) ∧ Aside0 (Below w.heap.size w wc))
  case first =>
    have H := HC3.out
    clear HC3
    obtain ⟨t211, A4, H⟩ := bind_p H
    by_cases c5 : t211 = true
    · subst c5
      have H1 : ((nat_Right.f l1).bind fun t212 => (nat_Gcd.j0 k l0 l1 (!t212))) = some (r1, r2) := by rw [if_pos rfl] at H; exact H
      clear H
      have H := H1
      clear H1
      obtain ⟨t212, A6, H⟩ := bind_p H
      have H' := Aside0.mk H
      clear H
      go_wp2_with (first | ((with_reducible refine gate_callee (f := 33) rfl ?_); refine goesL_ (some 9) rfl rfl Tryd.func33 (by kernel_rfl) rfl #[.slice A0 l0.length c0] rfl EQ ?_; (with_reducible refine (nat_Right.calls _ _ l0 true _ ?side1 ?side2 A4.out).mono ?_); (case side1 => repeat (first | exact (Kd.V_reads' HO0.out).2.2 | (with_reducible refine Kd.C_alloc ?_ _) | (with_reducible refine Kd.C_drewN ?_ _) | (with_reducible refine Kd.C_drew ?_))); (case side2 => exact (Kd.V_reads' HO0.out).2.1); rintro e w' ⟨rfl, ⟨nd, rfl⟩⟩; refine ⟨_, rfl, ?_⟩) | (go_at_call 33; (with_reducible refine (nat_Right.calls _ _ l1 t212 _ ?side1 ?side2 A6.out).mono ?_); (case side1 => repeat (first | exact (Kd.V_reads' HO1.out).2.2 | (with_reducible refine Kd.C_alloc ?_ _) | (with_reducible refine Kd.C_drewN ?_ _) | (with_reducible refine Kd.C_drew ?_))); (case side2 => exact (Kd.V_reads' HO1.out).2.1); rintro e w' ⟨rfl, ⟨nd, rfl⟩⟩))
      go_meet
      case rel => exact ⟨_, (!t212), (by first | rfl | (simp; done) | (simp [*]; done) | (simp; exact isEmpty_bne _)), H', ⟨by first | omega | exact Nat.le_refl _⟩, ⟨by (with_reducible repeat (first | apply Kd.V_alloc | apply Kd.V_drewN | apply Kd.V_drew)); exact HO0.out⟩, ⟨by (with_reducible repeat (first | apply Kd.V_alloc | apply Kd.V_drewN | apply Kd.V_drew)); exact HO1.out⟩, ⟨BL⟩⟩
    · replace c5 := Bool.eq_false_iff.mpr c5
      subst c5
      have H1 : (nat_Gcd.j0 k l0 l1 true) = some (r1, r2) := by rw [if_neg (show ¬ (false = true) by decide)] at H; exact H
      clear H
      have H := H1
      clear H1
      have H' := Aside0.mk H
      clear H
      go_wp2_with (first | ((with_reducible refine gate_callee (f := 33) rfl ?_); refine goesL_ (some 9) rfl rfl Tryd.func33 (by kernel_rfl) rfl #[.slice A0 l0.length c0] rfl EQ ?_; (with_reducible refine (nat_Right.calls _ _ l0 false _ ?side1 ?side2 A4.out).mono ?_); (case side1 => repeat (first | exact (Kd.V_reads' HO0.out).2.2 | (with_reducible refine Kd.C_alloc ?_ _) | (with_reducible refine Kd.C_drewN ?_ _) | (with_reducible refine Kd.C_drew ?_))); (case side2 => exact (Kd.V_reads' HO0.out).2.1); rintro e w' ⟨rfl, ⟨nd, rfl⟩⟩; refine ⟨_, rfl, ?_⟩))
      go_meet
      case rel => exact ⟨_, (true), (by first | rfl | (simp; done) | (simp [*]; done) | (simp; exact isEmpty_bne _)), H', ⟨by first | omega | exact Nat.le_refl _⟩, ⟨by (with_reducible repeat (first | apply Kd.V_alloc | apply Kd.V_drewN | apply Kd.V_drew)); exact HO0.out⟩, ⟨by (with_reducible repeat (first | apply Kd.V_alloc | apply Kd.V_drewN | apply Kd.V_drew)); exact HO1.out⟩, ⟨BL⟩⟩
  case rest =>
    clear HC3
    try clear c1
    try clear p2
    try clear c3
    try clear c4
    try clear c5
    obtain ⟨kq, x15_2, rfl, HA, HJ2, HO_0, HO_1, HB⟩ := hcut
    cases kq with
    | zero => exact absurd HA.out (by simp [nat_Gcd.j0])
    | succ kj2 =>
      have H := HA.out
      clear HA
      simp only [nat_Gcd.j0] at H
      by_cases c7 : x15_2 = true
      · subst c7
        have H1 : (some (([] : List Int), 1)) = some (r1, r2) := by rw [if_pos rfl] at H; exact H
        clear H
        have H := H1
        clear H1
        simp only [Option.some.injEq, Prod.mk.injEq] at H
        obtain ⟨rfl, rfl⟩ := H
        go_wp2
        go_ret2
        exact ⟨_, by first | rfl | (simp [errW_none, errW_some] <;> rfl) | (simp [*, errW_none, errW_some] <;> rfl), by first | exact Kd.R_nil _ _ _ _ _ | exact Kd.N_nil _ _ _ _ _ | exact Kd.V_nil _ _ _ _ _ | exact Kd.Q_nil _ _ _ _ _ | exact Kd.S_nil _ _ _ _ _, BL⟩
      · replace c7 := Bool.eq_false_iff.mpr c7
        subst c7
        have H1 : (nat_Gcd.l0 kj2 l0 l1) = some (r1, r2) := by rw [if_neg (show ¬ (false = true) by decide)] at H; exact H
        clear H
        have H := H1
        clear H1
        have H' := Aside0.mk H
        clear H
        go_wp2
        go_loopg [0, 1] kj2 (fun kq v0 v1 w' => ∃ (x0_2 : List Int) (x1_2 : List Int), Aside0 (nat_Gcd.l0 kq x0_2 x1_2 = some (r1, r2)) ∧ Aside0 (kq ≤ kj2) ∧ Aside0 (Kd.V (Kd.int .u32) 34 w' w.heap.size (fun k_ => ((P0_ k_ ∨ P1_ k_) ∨ w.heap.size ≤ k_)) v0 x0_2) ∧ Aside0 (Kd.V (Kd.int .u32) 34 w' w.heap.size (fun k_ => ((P0_ k_ ∨ P1_ k_) ∨ w.heap.size ≤ k_)) v1 x1_2) ∧ Aside0 (Below w.heap.size w w'))
        case atStart => exact ⟨(l0), (l1), H', ⟨Nat.le_refl _⟩, ⟨by (with_reducible repeat (first | apply Kd.V_alloc | apply Kd.V_drewN | apply Kd.V_drew)); exact HO_0.out⟩, ⟨by (with_reducible repeat (first | apply Kd.V_alloc | apply Kd.V_drewN | apply Kd.V_drew)); exact HO_1.out⟩, ⟨BL⟩⟩
        case round =>
          clear H'
          try clear c1
          try clear p2
          try clear c3
          try clear c4
          try clear c5
          try clear c7
          try clear p2
          obtain ⟨x0_2, x1_2, HA, HK2, HO_0, HO_1, HB⟩ := hrel
          cases gk with
          | zero => exact absurd HA.out (by simp [nat_Gcd.l0])
          | succ k2 =>
            have H := HA.out
            clear HA
            simp only [nat_Gcd.l0] at H
            by_cases c8 : (x1_2.length : Int) > 0
            · rw [if_pos c8] at H
              have c8b0 : decide (0 < (x1_2.length : Int)) = true := decide_eq_true c8
              have c8b1 : decide (0 < x1_2.length) = true := decide_eq_true (by omega)
              clear c8
              obtain ⟨⟨t213, t214⟩, A9, H⟩ := bind_p H
              dsimp only at H
              have H' := Aside0.mk H
              clear H
              obtain ⟨Ao10, co10, eo10⟩ := Kd.V_slice HO_1.out
              subst eo10
              obtain ⟨Ao11, co11, eo11⟩ := Kd.V_slice HO_0.out
              subst eo11
              go_wp2_with (first | ((with_reducible refine gate_callee (f := 61) rfl ?_); refine goesL_ (some 22) rfl rfl Tryd.func61 (by kernel_rfl) rfl #[.slice Ao11 x0_2.length co11, .slice Ao10 x1_2.length co10] rfl EQ ?_; (with_reducible refine (nat_split.calls k2 _ _ x0_2 _ _ x1_2 t213 t214 _ ?side1 ?side2 ?side3 ?side4 A9.out).mono ?_); (case side1 => repeat (first | exact (Kd.V_reads' HO_0.out).2.2 | (with_reducible refine Kd.C_alloc ?_ _) | (with_reducible refine Kd.C_drewN ?_ _) | (with_reducible refine Kd.C_drew ?_))); (case side2 => exact (Kd.V_reads' HO_0.out).2.1); (case side3 => repeat (first | exact (Kd.V_reads' HO_1.out).2.2 | (with_reducible refine Kd.C_alloc ?_ _) | (with_reducible refine Kd.C_drewN ?_ _) | (with_reducible refine Kd.C_drew ?_))); (case side4 => exact (Kd.V_reads' HO_1.out).2.1); rintro e w12 ⟨v215, v217, rfl, ho0, ho1, hb⟩; refine ⟨_, rfl, ?_⟩; have n0_ := Aside0.mk (Kd.V_mono (Kd.V_told (Kd.V_told (Kd.V_old (by (with_reducible repeat (first | apply Kd.V_alloc | apply Kd.V_drewN | apply Kd.V_drew)); exact HO_0.out) hb) (Kd.R_base ho0)) (Kd.R_base ho1)) (fun _ h_ => h_.1)); have n1_ := Aside0.mk (Kd.V_mono (Kd.V_told (Kd.V_told (Kd.V_old (by (with_reducible repeat (first | apply Kd.V_alloc | apply Kd.V_drewN | apply Kd.V_drew)); exact HO_1.out) hb) (Kd.R_base ho0)) (Kd.R_base ho1)) (fun _ h_ => h_.1)); have n2_ := Aside0.mk (Kd.R_lower (Kd.R_newM (M := fun k_ => (w.heap.size ≤ k_)) ho0 (below_size BL) (fun k_ h_ => h_)) (below_size BL)); have n3_ := Aside0.mk (Kd.R_lower (Kd.R_newM (M := fun k_ => (w.heap.size ≤ k_)) ho1 (below_size BL) (fun k_ h_ => h_)) (below_size BL)); have n4_ := Aside0.mk (below_step BL hb); clear HO_0; clear HO_1; clear HB; have HO_0 := n0_; have HO_1 := n1_; have HO216 := n2_; have HO218 := n3_; have HB := n4_; clear n0_ n1_ n2_ n3_ n4_; (try clear hb); (try clear hb2); (try clear hk); (try clear hi); (try clear ho0); (try clear ho1)))
              go_roundg k2
              case measure => have := HJ2.out; have := HK2.out; omega
              case rel => exact ⟨(x1_2), (t214), H', ⟨by have := HJ2.out; have := HK2.out; omega⟩, ⟨by (with_reducible repeat (first | apply Kd.V_alloc | apply Kd.V_drewN | apply Kd.V_drew)); exact Kd.V_mono HO_1.out (fun _ hk => hk.1.1)⟩, ⟨Kd.V_mono (Kd.R_V (by (with_reducible repeat (first | apply Kd.R_alloc | apply Kd.R_drewN | apply Kd.R_drew)); exact Kd.R_mono HO218.out (fun _ hk => hk.1))) (fun k_ hk => by first | exact ⟨(.inr (hk.1)), hk.2⟩ | exact (.inr (hk)))⟩, ⟨BL⟩⟩
            · rw [if_neg c8] at H
              have c8b0 : decide (0 < (x1_2.length : Int)) = false := decide_eq_false c8
              have c8b1 : decide (0 < x1_2.length) = false := decide_eq_false (by omega)
              clear c8
              obtain ⟨t219, A13, H⟩ := bind_p H
              simp only [Option.some.injEq, Prod.mk.injEq] at H
              obtain ⟨rfl, rfl⟩ := H
              obtain ⟨Ao14, co14, eo14⟩ := Kd.V_slice HO_1.out
              subst eo14
              obtain ⟨Ao15, co15, eo15⟩ := Kd.V_slice HO_0.out
              subst eo15
              go_wp2_with (first | ((with_reducible refine gate_callee (f := 62) rfl ?_); refine goesL_ (some 28) rfl rfl Tryd.func62 (by kernel_rfl) rfl #[.slice Ao15 x0_2.length co15] rfl EQ ?_; (with_reducible refine (api_Nat_uint32.calls _ _ x0_2 t219 _ ?side1 ?side2 A13.out).mono ?_); (case side1 => repeat (first | exact (Kd.V_reads' HO_0.out).2.2 | (with_reducible refine Kd.C_alloc ?_ _) | (with_reducible refine Kd.C_drewN ?_ _) | (with_reducible refine Kd.C_drew ?_))); (case side2 => exact (Kd.V_reads' HO_0.out).2.1); rintro e w16 ⟨v220, rfl, ho0, hb⟩; refine ⟨_, rfl, ?_⟩; have n0_ := Aside0.mk (Kd.V_elder' (by (with_reducible repeat (first | apply Kd.V_alloc | apply Kd.V_drewN | apply Kd.V_drew)); exact HO_0.out) (Kd.R_base ho0) hb); have n1_ := Aside0.mk (Kd.V_elder' (by (with_reducible repeat (first | apply Kd.V_alloc | apply Kd.V_drewN | apply Kd.V_drew)); exact HO_1.out) (Kd.R_base ho0) hb); have n2_ := Aside0.mk (Kd.R_lower (Kd.R_newM (M := fun k_ => (w.heap.size ≤ k_)) ho0 (below_size BL) (fun k_ h_ => h_)) (below_size BL)); have n3_ := Aside0.mk (below_step BL hb); clear HO_0; clear HO_1; clear HB; have HO_0 := n0_; have HO_1 := n1_; have HO221 := n2_; have HB := n3_; clear n0_ n1_ n2_ n3_; (try clear hb); (try clear hb2); (try clear hk); (try clear hi); (try clear ho0)))
              go_ret2
              exact ⟨_, by first | rfl | (simp [errW_none, errW_some] <;> rfl) | (simp [*, errW_none, errW_some] <;> rfl), by (with_reducible repeat (first | apply Kd.R_alloc | apply Kd.R_drewN | apply Kd.R_drew)); exact Kd.R_mono HO221.out (fun _ hk => hk.1), BL⟩

/-! ### nat_Div: function 55 -/
set_option maxHeartbeats 8000000 in
set_option maxRecDepth 100000 in
theorem nat_Div.calls (k : Nat) (A0 : Option Addr) (c0 : Nat) (l0 : List Int) (A1 : Option Addr) (c1 : Nat) (l1 : List Int) (r1 : List Int) (r2 : List Int) (r3 : Int) (w : World) (hr0 : Kd.C (Kd.int .u32) w A0 l0.length l0) (hc0 : l0.length ≤ c0) (hr1 : Kd.C (Kd.int .u32) w A1 l1.length l1) (hc1 : l1.length ≤ c1) (h : nat_Div.f k l0 l1 = some (r1, r2, r3)) :
    Calls Tryd.prog 55 #[.slice A0 l0.length c0, .slice A1 l1.length c1] w fun e w' => ∃ v0_ v1_ : Value, e = .returned (.tuple #[v0_, v1_, .int .i64 r3]) ∧ Kd.R (Kd.int .u32) 34 w' w.heap.size (fun k_ => some k_ ≠ (v1_ : Value).ownBlock) v0_ r1 ∧ Kd.R (Kd.int .u32) 34 w' w.heap.size (fun k_ => some k_ ≠ (v0_ : Value).ownBlock) v1_ r2 ∧ Below w.heap.size w w' := by
  have HR0 := Aside0.mk hr0
  have HC0 := Aside0.mk hc0
  clear hr0 hc0
  have HR1 := Aside0.mk hr1
  have HC1 := Aside0.mk hc1
  clear hr1 hc1
  have HB := Aside0.mk (Below.refl w.heap.size w)
  have H : ((nat_Right.f l0).bind fun t222 => (if t222 = true then ((nat_Right.f l1).bind fun t223 => (nat_Div.j0 k l0 l1 (!t223))) else (nat_Div.j0 k l0 l1 true))) = some (r1, r2, r3) := h
  clear h
  have HC3 := Aside0.mk H
  clear H
  go_enter Tryd.func55, Tryd.ntmps55
  go_upto_region 1 with (fail)
  go_cut [9] (fun v9 wc => ∃ (kq : Nat) (x9_2 : Bool), v9 = .bool x9_2 ∧ Aside0 (nat_Div.j0 kq l0 l1 x9_2 = some (r1, r2, r3)) ∧ Aside0 (kq ≤ k) ∧ Aside0 (Below w.heap.size w wc))
  case first =>
    have H := HC3.out
    clear HC3
    obtain ⟨t222, A4, H⟩ := bind_p H
    by_cases c5 : t222 = true
    · subst c5
      have H1 : ((nat_Right.f l1).bind fun t223 => (nat_Div.j0 k l0 l1 (!t223))) = some (r1, r2, r3) := by rw [if_pos rfl] at H; exact H
      clear H
      have H := H1
      clear H1
      obtain ⟨t223, A6, H⟩ := bind_p H
      have H' := Aside0.mk H
      clear H
      go_wp2_with (first | ((with_reducible refine gate_callee (f := 33) rfl ?_); refine goesL_ (some 11) rfl rfl Tryd.func33 (by kernel_rfl) rfl #[.slice A0 l0.length c0] rfl EQ ?_; (with_reducible refine (nat_Right.calls _ _ l0 true _ ?side1 ?side2 A4.out).mono ?_); (case side1 => exact CB HR0); (case side2 => exact HC0.out); rintro e w' ⟨rfl, ⟨nd, rfl⟩⟩; refine ⟨_, rfl, ?_⟩) | (go_at_call 33; (with_reducible refine (nat_Right.calls _ _ l1 t223 _ ?side1 ?side2 A6.out).mono ?_); (case side1 => repeat (first | exact (Kd.C_below HR1.out BL) | (with_reducible refine Kd.C_alloc ?_ _) | (with_reducible refine Kd.C_drewN ?_ _) | (with_reducible refine Kd.C_drew ?_))); (case side2 => exact HC1.out); rintro e w' ⟨rfl, ⟨nd, rfl⟩⟩))
      go_meet
      case rel => exact ⟨_, (!t223), (by first | rfl | (simp; done) | (simp [*]; done) | (simp; exact isEmpty_bne _)), H', ⟨by first | omega | exact Nat.le_refl _⟩, ⟨BL⟩⟩
    · replace c5 := Bool.eq_false_iff.mpr c5
      subst c5
      have H1 : (nat_Div.j0 k l0 l1 true) = some (r1, r2, r3) := by rw [if_neg (show ¬ (false = true) by decide)] at H; exact H
      clear H
      have H := H1
      clear H1
      have H' := Aside0.mk H
      clear H
      go_wp2_with (first | ((with_reducible refine gate_callee (f := 33) rfl ?_); refine goesL_ (some 11) rfl rfl Tryd.func33 (by kernel_rfl) rfl #[.slice A0 l0.length c0] rfl EQ ?_; (with_reducible refine (nat_Right.calls _ _ l0 false _ ?side1 ?side2 A4.out).mono ?_); (case side1 => exact CB HR0); (case side2 => exact HC0.out); rintro e w' ⟨rfl, ⟨nd, rfl⟩⟩; refine ⟨_, rfl, ?_⟩))
      go_meet
      case rel => exact ⟨_, (true), (by first | rfl | (simp; done) | (simp [*]; done) | (simp; exact isEmpty_bne _)), H', ⟨by first | omega | exact Nat.le_refl _⟩, ⟨BL⟩⟩
  case rest =>
    clear HC3
    try clear c1
    try clear p2
    try clear c3
    try clear c5
    obtain ⟨kq, x9_2, rfl, HA, HJ2, HB⟩ := hcut
    cases kq with
    | zero => exact absurd HA.out (by simp [nat_Div.j0])
    | succ kj2 =>
      have H := HA.out
      clear HA
      simp only [nat_Div.j0] at H
      by_cases c7 : x9_2 = true
      · subst c7
        have H1 : (some (([] : List Int), ([] : List Int), 1)) = some (r1, r2, r3) := by rw [if_pos rfl] at H; exact H
        clear H
        have H := H1
        clear H1
        simp only [Option.some.injEq, Prod.mk.injEq] at H
        obtain ⟨rfl, rfl, rfl⟩ := H
        go_wp2
        go_ret3
        exact ⟨_, _, by first | rfl | (simp [errW_none, errW_some] <;> rfl) | (simp [*, errW_none, errW_some] <;> rfl), by first | exact Kd.R_nil _ _ _ _ _ | exact Kd.N_nil _ _ _ _ _ | exact Kd.V_nil _ _ _ _ _ | exact Kd.Q_nil _ _ _ _ _ | exact Kd.S_nil _ _ _ _ _, by first | exact Kd.R_nil _ _ _ _ _ | exact Kd.N_nil _ _ _ _ _ | exact Kd.V_nil _ _ _ _ _ | exact Kd.Q_nil _ _ _ _ _ | exact Kd.S_nil _ _ _ _ _, BL⟩
      · replace c7 := Bool.eq_false_iff.mpr c7
        subst c7
        have H1 : (if (l1.length : Int) = 0 then (some (([] : List Int), ([] : List Int), 7)) else ((nat_split.f kj2 l0 l1).bind fun bt224 => (some (bt224.1, bt224.2, 0)))) = some (r1, r2, r3) := by rw [if_neg (show ¬ (false = true) by decide)] at H; exact H
        clear H
        have H := H1
        clear H1
        by_cases c8 : (l1.length : Int) = 0
        · rw [if_pos c8] at H
          have c8b0 : ((l1.length : Int) == 0) = true := beq_iff_eq.mpr c8
          have c8b1 : ((l1.length : Int) != 0) = false := bne_eq_false_iff_eq.mpr c8
          clear c8
          simp only [Option.some.injEq, Prod.mk.injEq] at H
          obtain ⟨rfl, rfl, rfl⟩ := H
          go_wp2
          go_ret3
          exact ⟨_, _, by first | rfl | (simp [errW_none, errW_some] <;> rfl) | (simp [*, errW_none, errW_some] <;> rfl), by first | exact Kd.R_nil _ _ _ _ _ | exact Kd.N_nil _ _ _ _ _ | exact Kd.V_nil _ _ _ _ _ | exact Kd.Q_nil _ _ _ _ _ | exact Kd.S_nil _ _ _ _ _, by first | exact Kd.R_nil _ _ _ _ _ | exact Kd.N_nil _ _ _ _ _ | exact Kd.V_nil _ _ _ _ _ | exact Kd.Q_nil _ _ _ _ _ | exact Kd.S_nil _ _ _ _ _, BL⟩
        · rw [if_neg c8] at H
          have c8b0 : ((l1.length : Int) == 0) = false := beq_eq_false_iff_ne.mpr c8
          have c8b1 : ((l1.length : Int) != 0) = true := bne_iff_ne.mpr c8
          have c8b2 : ¬ (l1 = []) := fun h_ => c8 (by rw [h_]; rfl)
          obtain ⟨⟨t224, t225⟩, A9, H⟩ := bind_p H
          dsimp only at H
          simp only [Option.some.injEq, Prod.mk.injEq] at H
          obtain ⟨rfl, rfl, rfl⟩ := H
          go_wp2_with (first | ((with_reducible refine gate_callee (f := 61) rfl ?_); refine goesL_ (some 25) rfl rfl Tryd.func61 (by kernel_rfl) rfl #[.slice A0 l0.length c0, .slice A1 l1.length c1] rfl EQ ?_; (with_reducible refine (nat_split.calls kj2 _ _ l0 _ _ l1 t224 t225 _ ?side1 ?side2 ?side3 ?side4 A9.out).mono ?_); (case side1 => exact CB HR0); (case side2 => exact HC0.out); (case side3 => exact CB HR1); (case side4 => exact HC1.out); rintro e w10 ⟨v226, v228, rfl, ho0, ho1, hb⟩; refine ⟨_, rfl, ?_⟩; have n0_ := Aside0.mk (Kd.R_lower ho0 (below_size BL)); have n1_ := Aside0.mk (Kd.R_lower ho1 (below_size BL)); have n2_ := Aside0.mk (below_step BL hb); clear HB; have HO227 := n0_; have HO229 := n1_; have HB := n2_; clear n0_ n1_ n2_; (try clear hb); (try clear hb2); (try clear hk); (try clear hi); (try clear ho0); (try clear ho1)))
          go_ret3
          exact ⟨_, _, by first | rfl | (simp [errW_none, errW_some] <;> rfl) | (simp [*, errW_none, errW_some] <;> rfl), by (with_reducible repeat (first | apply Kd.R_alloc | apply Kd.R_drewN | apply Kd.R_drew)); exact HO227.out, by (with_reducible repeat (first | apply Kd.R_alloc | apply Kd.R_drewN | apply Kd.R_drew)); exact HO229.out, BL⟩

/-! ### nat_Cmp: function 41 -/
set_option maxHeartbeats 8000000 in
set_option maxRecDepth 100000 in
theorem nat_Cmp.calls (k : Nat) (A0 : Option Addr) (c0 : Nat) (l0 : List Int) (A1 : Option Addr) (c1 : Nat) (l1 : List Int) (r : Int) (w : World) (hr0 : Kd.C (Kd.int .u32) w A0 l0.length l0) (hc0 : l0.length ≤ c0) (hr1 : Kd.C (Kd.int .u32) w A1 l1.length l1) (hc1 : l1.length ≤ c1) (h : nat_Cmp.f k l0 l1 = some r) :
    Calls Tryd.prog 41 #[.slice A0 l0.length c0, .slice A1 l1.length c1] w fun e w' => e = .returned (.int .i64 r) ∧ Below w.heap.size w w' := by
  have HR0 := Aside0.mk hr0
  have HC0 := Aside0.mk hc0
  clear hr0 hc0
  have HR1 := Aside0.mk hr1
  have HC1 := Aside0.mk hc1
  clear hr1 hc1
  have HB := Aside0.mk (Below.refl w.heap.size w)
  have H : ((nat_Right.f l0).bind fun t230 => (if t230 = true then ((nat_Right.f l1).bind fun t231 => (if t231 = true then ((nat_order.f k l0 l1).bind fun t232 => (some t232)) else (some 0))) else (some 0))) = some r := h
  clear h
  obtain ⟨t230, A3, H⟩ := bind_p H
  by_cases c4 : t230 = true
  · subst c4
    have H1 : ((nat_Right.f l1).bind fun t231 => (if t231 = true then ((nat_order.f k l0 l1).bind fun t232 => (some t232)) else (some 0))) = some r := by rw [if_pos rfl] at H; exact H
    clear H
    have H := H1
    clear H1
    obtain ⟨t231, A5, H⟩ := bind_p H
    by_cases c6 : t231 = true
    · subst c6
      have H1 : ((nat_order.f k l0 l1).bind fun t232 => (some t232)) = some r := by rw [if_pos rfl] at H; exact H
      clear H
      have H := H1
      clear H1
      obtain ⟨t232, A7, H⟩ := bind_p H
      obtain rfl := Option.some.inj H
      go_enter Tryd.func41, Tryd.ntmps41
      go_wp2_with (first | ((with_reducible refine gate_callee (f := 33) rfl ?_); refine goesL_ (some 6) rfl rfl Tryd.func33 (by kernel_rfl) rfl #[.slice A0 l0.length c0] rfl EQ ?_; (with_reducible refine (nat_Right.calls _ _ l0 true _ ?side1 ?side2 A3.out).mono ?_); (case side1 => repeat (first | exact HR0.out | (with_reducible refine Kd.C_alloc ?_ _) | (with_reducible refine Kd.C_drewN ?_ _) | (with_reducible refine Kd.C_drew ?_))); (case side2 => exact HC0.out); rintro e w' ⟨rfl, ⟨nd, rfl⟩⟩; refine ⟨_, rfl, ?_⟩) | (go_at_call 33; (with_reducible refine (nat_Right.calls _ _ l1 true _ ?side1 ?side2 A5.out).mono ?_); (case side1 => repeat (first | exact HR1.out | (with_reducible refine Kd.C_alloc ?_ _) | (with_reducible refine Kd.C_drewN ?_ _) | (with_reducible refine Kd.C_drew ?_))); (case side2 => exact HC1.out); rintro e w' ⟨rfl, ⟨nd, rfl⟩⟩) | ((with_reducible refine gate_callee (f := 63) rfl ?_); refine goesL_ (some 15) rfl rfl Tryd.func63 (by kernel_rfl) rfl #[.slice A0 l0.length c0, .slice A1 l1.length c1] rfl EQ ?_; (with_reducible refine (nat_order.calls k _ _ l0 _ _ l1 t232 _ ?side1 ?side2 ?side3 ?side4 A7.out).mono ?_); (case side1 => repeat (first | exact HR0.out | (with_reducible refine Kd.C_alloc ?_ _) | (with_reducible refine Kd.C_drewN ?_ _) | (with_reducible refine Kd.C_drew ?_))); (case side2 => exact HC0.out); (case side3 => repeat (first | exact HR1.out | (with_reducible refine Kd.C_alloc ?_ _) | (with_reducible refine Kd.C_drewN ?_ _) | (with_reducible refine Kd.C_drew ?_))); (case side4 => exact HC1.out); rintro e w8 ⟨rfl, hb⟩; refine ⟨_, rfl, ?_⟩; have n0_ := Aside0.mk (below_step BL hb); clear HB; have HB := n0_; clear n0_; (try clear hb); (try clear hb2); (try clear hk); (try clear hi)))
      go_ret
      exact ⟨by first | rfl | (simp [errW_none, errW_some] <;> rfl) | (simp [*, errW_none, errW_some] <;> rfl), BL⟩
    · replace c6 := Bool.eq_false_iff.mpr c6
      subst c6
      have H1 : (some 0) = some r := by rw [if_neg (show ¬ (false = true) by decide)] at H; exact H
      clear H
      have H := H1
      clear H1
      obtain rfl := Option.some.inj H
      go_enter Tryd.func41, Tryd.ntmps41
      go_wp2_with (first | ((with_reducible refine gate_callee (f := 33) rfl ?_); refine goesL_ (some 6) rfl rfl Tryd.func33 (by kernel_rfl) rfl #[.slice A0 l0.length c0] rfl EQ ?_; (with_reducible refine (nat_Right.calls _ _ l0 true _ ?side1 ?side2 A3.out).mono ?_); (case side1 => repeat (first | exact HR0.out | (with_reducible refine Kd.C_alloc ?_ _) | (with_reducible refine Kd.C_drewN ?_ _) | (with_reducible refine Kd.C_drew ?_))); (case side2 => exact HC0.out); rintro e w' ⟨rfl, ⟨nd, rfl⟩⟩; refine ⟨_, rfl, ?_⟩) | (go_at_call 33; (with_reducible refine (nat_Right.calls _ _ l1 false _ ?side1 ?side2 A5.out).mono ?_); (case side1 => repeat (first | exact HR1.out | (with_reducible refine Kd.C_alloc ?_ _) | (with_reducible refine Kd.C_drewN ?_ _) | (with_reducible refine Kd.C_drew ?_))); (case side2 => exact HC1.out); rintro e w' ⟨rfl, ⟨nd, rfl⟩⟩))
      go_ret
      exact ⟨by first | rfl | (simp [errW_none, errW_some] <;> rfl) | (simp [*, errW_none, errW_some] <;> rfl), BL⟩
  · replace c4 := Bool.eq_false_iff.mpr c4
    subst c4
    have H1 : (some 0) = some r := by rw [if_neg (show ¬ (false = true) by decide)] at H; exact H
    clear H
    have H := H1
    clear H1
    obtain rfl := Option.some.inj H
    go_enter Tryd.func41, Tryd.ntmps41
    go_wp2_with (first | ((with_reducible refine gate_callee (f := 33) rfl ?_); refine goesL_ (some 6) rfl rfl Tryd.func33 (by kernel_rfl) rfl #[.slice A0 l0.length c0] rfl EQ ?_; (with_reducible refine (nat_Right.calls _ _ l0 false _ ?side1 ?side2 A3.out).mono ?_); (case side1 => repeat (first | exact HR0.out | (with_reducible refine Kd.C_alloc ?_ _) | (with_reducible refine Kd.C_drewN ?_ _) | (with_reducible refine Kd.C_drew ?_))); (case side2 => exact HC0.out); rintro e w' ⟨rfl, ⟨nd, rfl⟩⟩; refine ⟨_, rfl, ?_⟩))
    go_ret
    exact ⟨by first | rfl | (simp [errW_none, errW_some] <;> rfl) | (simp [*, errW_none, errW_some] <;> rfl), BL⟩

/-! ### nat_kept: function 66 -/
set_option maxHeartbeats 8000000 in
set_option maxRecDepth 100000 in
theorem nat_kept.calls (P0_ : Nat → Prop) (u9000_ : Value) (l0 : List Int) (r1 : List Int) (r2 : Int) (w0 w : World) (hB : Below w0.heap.size w0 w) (ho0 : Kd.R (Kd.int .u32) 34 w w0.heap.size P0_ u9000_ l0) (h : nat_kept.f l0 = some (r1, r2)) :
    Calls Tryd.prog 66 #[u9000_] w fun e w' => ∃ v0_ : Value, e = .returned (.tuple #[v0_, .int .i64 r2]) ∧ Kd.R (Kd.int .u32) 34 w' w0.heap.size (fun k_ => (P0_ k_ ∨ w.heap.size ≤ k_)) v0_ r1 ∧ Below w0.heap.size w0 w' ∧ Kept w w' (fun k_ => P0_ k_) := by
  have HO0 := Aside0.mk (show Kd.R (Kd.int .u32) 34 w w0.heap.size (fun k_ => (P0_ k_ ∨ w.heap.size ≤ k_)) u9000_ l0 from Kd.R_mono ho0 (fun k_ hk => (.inl hk)))
  have HK := Aside0.mk (Kept.refl w (fun k_ => P0_ k_))
  have HW0 := Aside0.mk hB.size
  have HB := Aside0.mk hB
  clear hB
  have H : (if (l0.length : Int) > 64 then (some (([] : List Int), 6)) else (some (l0, 0))) = some (r1, r2) := h
  clear h
  by_cases c2 : (l0.length : Int) > 64
  · rw [if_pos c2] at H
    have c2b0 : decide (64 < (l0.length : Int)) = true := decide_eq_true c2
    have c2b1 : decide (64 < l0.length) = true := decide_eq_true (by omega)
    clear c2
    simp only [Option.some.injEq, Prod.mk.injEq] at H
    obtain ⟨rfl, rfl⟩ := H
    obtain ⟨Ao3, co3, eo3⟩ := Kd.R_slice HO0.out
    subst eo3
    go_enter Tryd.func66, Tryd.ntmps66
    go_wp2
    go_ret2
    exact ⟨_, by first | rfl | (simp [errW_none, errW_some] <;> rfl) | (simp [*, errW_none, errW_some] <;> rfl), by first | exact Kd.R_nil _ _ _ _ _ | exact Kd.N_nil _ _ _ _ _ | exact Kd.V_nil _ _ _ _ _ | exact Kd.Q_nil _ _ _ _ _ | exact Kd.S_nil _ _ _ _ _, by repeat (first | (with_reducible first | exact HB.out | apply below_alloc | apply pw_below_drewN | apply below_drew1) | exact HB.out), by repeat (first | (with_reducible first | exact HK.out | apply Kept.alloc | apply Kept.drewN | apply Kept.drew) | exact HK.out)⟩
  · rw [if_neg c2] at H
    have c2b0 : decide (64 < (l0.length : Int)) = false := decide_eq_false c2
    have c2b1 : decide (64 < l0.length) = false := decide_eq_false (by omega)
    clear c2
    simp only [Option.some.injEq, Prod.mk.injEq] at H
    obtain ⟨rfl, rfl⟩ := H
    obtain ⟨Ao4, co4, eo4⟩ := Kd.R_slice HO0.out
    subst eo4
    go_enter Tryd.func66, Tryd.ntmps66
    go_wp2
    go_ret2
    exact ⟨_, by first | rfl | (simp [errW_none, errW_some] <;> rfl) | (simp [*, errW_none, errW_some] <;> rfl), by (with_reducible repeat (first | apply Kd.R_alloc | apply Kd.R_drewN | apply Kd.R_drew)); exact HO0.out, by repeat (first | (with_reducible first | exact HB.out | apply below_alloc | apply pw_below_drewN | apply below_drew1) | exact HB.out), by repeat (first | (with_reducible first | exact HK.out | apply Kept.alloc | apply Kept.drewN | apply Kept.drew) | exact HK.out)⟩

end Go.Proofs.YtecbbenfcepohaaDoor.K
