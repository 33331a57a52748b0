-- Printed by this session's own program out of the translation.
import Derived.Test.YtdgbeejhccogpaaDoorPx0
import Derived.Test.YtdgbeejhccogpaaDoorPx5
namespace Go.Proofs.YtdgbeejhccogpaaDoor.P
open Go.RowKit Go.Proofs.YtdgbeejhccogpaaDoorW.PrintWords Go.Proofs.YtdgbeejhccogpaaDoorW.PrintLast Go.Proofs.YtdgbeejhccogpaaDoorW.PrintMore
attribute [local go_sem] max2_int min2_int max_two min_two max_three min_three max_four min_four   -- for this text's walks alone
set_option linter.unusedVariables false
set_option linter.unusedSimpArgs false

/-! ### samphireref02_Add: function 24 -/
set_option maxHeartbeats 8000000 in
set_option maxRecDepth 100000 in
theorem samphireref02_Add.calls (k : Nat) (A0 : Option Addr) (c0 : Nat) (l0 : List Int) (A1 : Option Addr) (c1 : Nat) (l1 : List Int) (r : List Int) (w : World) (hr0 : Kd.C (Kd.int .u32) w A0 l0.length l0) (hc0 : l0.length ≤ c0) (hr1 : Kd.C (Kd.int .u32) w A1 l1.length l1) (hc1 : l1.length ≤ c1) (h : samphireref02_Add.f k l0 l1 = some r) :
    Calls Tryd.prog 24 #[.slice A0 l0.length c0, .slice A1 l1.length c1] w fun e w' => ∃ v0_ : Value, e = .returned (v0_) ∧ Kd.R (Kd.int .u32) 36 w' w.heap.size (fun _ => True) v0_ r ∧ Below w.heap.size w w' := by
  have HR0 := Aside0.mk hr0
  have HC0 := Aside0.mk hc0
  clear hr0 hc0
  have HR1 := Aside0.mk hr1
  have HC1 := Aside0.mk hc1
  clear hr1 hc1
  have HB := Aside0.mk (Below.refl w.heap.size w)
  have H : ((samphireref02_Half.f k l0 (wrap64 ((wrap64 (2 * (mx (l0.length : Int) (l1.length : Int)))) + 2))).bind fun t538 => ((samphireref02_Half.f k l1 (wrap64 ((wrap64 (2 * (mx (l0.length : Int) (l1.length : Int)))) + 2))).bind fun t541 => (samphireref02_Add.l0 k (wrap64 ((wrap64 (2 * (mx (l0.length : Int) (l1.length : Int)))) + 2)) t538 t541 0 0))) = some r := h
  clear h
  obtain ⟨ji3, hji3⟩ := let_j (mx (l0.length : Int) (l1.length : Int))
  (first | rw [hji3] at H | simp only [hji3] at H ⊢)
  (try (have hji3l : 0 ≤ ji3 := by (rw [← hji3]; unfold mx; (repeat' split) <;> omega)))
  (try (have hji3m : 0 ≤ ji3 := by omega))
  (try (have hji3N_ : (if l0.length < l1.length then (l1.length : Int) else (l0.length : Int)) = ji3 := by (have h_ := hji3; unfold mx at h_; split at h_ <;> split <;> omega)))
  have hji3_ : (if (l0.length : Int) < (l1.length : Int) then (l1.length : Int) else (l0.length : Int)) = ji3 := hji3
  obtain ⟨t538, A4, H⟩ := bind_p H
  obtain ⟨t541, A5, H⟩ := bind_p H
  have H' := Aside0.mk H
  clear H
  go_enter Tryd.func24, Tryd.ntmps24
  go_wp2_with (first | (go_at_call 47; (with_reducible refine (samphireref02_Half.calls k _ _ l0 (wrap64 ((wrap64 (2 * (ji3))) + 2)) t538 _ ?side1 ?side2 A4.out).mono ?_); (case side1 => repeat (first | exact HR0.out | (with_reducible refine Kd.C_alloc ?_ _) | (with_reducible refine Kd.C_drewN ?_ _) | (with_reducible refine Kd.C_drew ?_))); (case side2 => exact HC0.out); rintro e w6 ⟨v539, rfl, ho0, hb⟩; have n0_ := Aside0.mk (Kd.R_lower ho0 (below_size BL)); have n1_ := Aside0.mk (below_step BL hb); clear HB; have HO540 := n0_; have HB := n1_; clear n0_ n1_; (try clear hb); (try clear hb2); (try clear hk); (try clear hi); (try clear ho0)) | (go_at_call 47; (with_reducible refine (samphireref02_Half.calls k _ _ l1 (wrap64 ((wrap64 (2 * (ji3))) + 2)) t541 _ ?side1 ?side2 A5.out).mono ?_); (case side1 => exact CB HR1); (case side2 => exact HC1.out); rintro e w7 ⟨v542, rfl, ho0, hb⟩; have n0_ := Aside0.mk (Kd.R_elder' (RL HO540) (Kd.R_base ho0) hb); have n1_ := Aside0.mk (Kd.R_lower (Kd.R_new' ho0 (Kd.R_lt (RL HO540))) (below_size BL)); have n2_ := Aside0.mk (below_step BL hb); clear HO540; clear HB; have HO540 := n0_; have HO543 := n1_; have HB := n2_; clear n0_ n1_ n2_; (try clear hb); (try clear hb2); (try clear hk); (try clear hi); (try clear ho0)))
  repeat (go_quiet (first | (go_at_call 47; (with_reducible refine (samphireref02_Half.calls k _ _ l0 (wrap64 ((wrap64 (2 * (ji3))) + 2)) t538 _ ?side1 ?side2 A4.out).mono ?_); (case side1 => repeat (first | exact HR0.out | (with_reducible refine Kd.C_alloc ?_ _) | (with_reducible refine Kd.C_drewN ?_ _) | (with_reducible refine Kd.C_drew ?_))); (case side2 => exact HC0.out); rintro e w6 ⟨v539, rfl, ho0, hb⟩; have n0_ := Aside0.mk (Kd.R_lower ho0 (below_size BL)); have n1_ := Aside0.mk (below_step BL hb); clear HB; have HO540 := n0_; have HB := n1_; clear n0_ n1_; (try clear hb); (try clear hb2); (try clear hk); (try clear hi); (try clear ho0)) | (go_at_call 47; (with_reducible refine (samphireref02_Half.calls k _ _ l1 (wrap64 ((wrap64 (2 * (ji3))) + 2)) t541 _ ?side1 ?side2 A5.out).mono ?_); (case side1 => exact CB HR1); (case side2 => exact HC1.out); rintro e w7 ⟨v542, rfl, ho0, hb⟩; have n0_ := Aside0.mk (Kd.R_elder' (RL HO540) (Kd.R_base ho0) hb); have n1_ := Aside0.mk (Kd.R_lower (Kd.R_new' ho0 (Kd.R_lt (RL HO540))) (below_size BL)); have n2_ := Aside0.mk (below_step BL hb); clear HO540; clear HB; have HO540 := n0_; have HO543 := n1_; have HB := n2_; clear n0_ n1_ n2_; (try clear hb); (try clear hb2); (try clear hk); (try clear hi); (try clear ho0))); try go_wp2_with (first | (go_at_call 47; (with_reducible refine (samphireref02_Half.calls k _ _ l0 (wrap64 ((wrap64 (2 * (ji3))) + 2)) t538 _ ?side1 ?side2 A4.out).mono ?_); (case side1 => repeat (first | exact HR0.out | (with_reducible refine Kd.C_alloc ?_ _) | (with_reducible refine Kd.C_drewN ?_ _) | (with_reducible refine Kd.C_drew ?_))); (case side2 => exact HC0.out); rintro e w6 ⟨v539, rfl, ho0, hb⟩; have n0_ := Aside0.mk (Kd.R_lower ho0 (below_size BL)); have n1_ := Aside0.mk (below_step BL hb); clear HB; have HO540 := n0_; have HB := n1_; clear n0_ n1_; (try clear hb); (try clear hb2); (try clear hk); (try clear hi); (try clear ho0)) | (go_at_call 47; (with_reducible refine (samphireref02_Half.calls k _ _ l1 (wrap64 ((wrap64 (2 * (ji3))) + 2)) t541 _ ?side1 ?side2 A5.out).mono ?_); (case side1 => exact CB HR1); (case side2 => exact HC1.out); rintro e w7 ⟨v542, rfl, ho0, hb⟩; have n0_ := Aside0.mk (Kd.R_elder' (RL HO540) (Kd.R_base ho0) hb); have n1_ := Aside0.mk (Kd.R_lower (Kd.R_new' ho0 (Kd.R_lt (RL HO540))) (below_size BL)); have n2_ := Aside0.mk (below_step BL hb); clear HO540; clear HB; have HO540 := n0_; have HO543 := n1_; have HB := n2_; clear n0_ n1_ n2_; (try clear hb); (try clear hb2); (try clear hk); (try clear hi); (try clear ho0))))
  go_loopg [8, 9] k (fun kq v8 v9 w' => ∃ (x6_1 : List Int) (x8_1 : Int) (x9_1 : Int), v8 = .int .u64 x8_1 ∧ v9 = .int .i64 x9_1 ∧ Aside0 (samphireref02_Add.l0 kq (wrap64 ((wrap64 (2 * (ji3))) + 2)) x6_1 t541 x8_1 x9_1 = some r) ∧ Aside0 (kq ≤ k) ∧ Aside0 (Kd.R (Kd.int .u64) 37 w' w.heap.size (fun k_ => some k_ ≠ (v542 : Value).ownBlock) v539 x6_1) ∧ Aside0 (Kd.R (Kd.int .u64) 37 w' w.heap.size (fun k_ => some k_ ≠ (v539 : Value).ownBlock) v542 t541) ∧ Aside0 (Below w.heap.size w w'))
  case atStart => exact ⟨(t538), (0), (0), (by first | rfl | (simp; done) | (simp [*]; done) | (simp; exact isEmpty_bne _)), (by first | rfl | (simp; done) | (simp [*]; done) | (simp; exact isEmpty_bne _)), H', ⟨Nat.le_refl _⟩, ⟨by (with_reducible repeat (first | apply Kd.R_alloc | apply Kd.R_drewN | apply Kd.R_drew)); exact Kd.R_mono HO540.out (fun _ hk => hk.2)⟩, ⟨by (with_reducible repeat (first | apply Kd.R_alloc | apply Kd.R_drewN | apply Kd.R_drew)); exact Kd.R_mono HO543.out (fun _ hk => hk.2)⟩, ⟨BL⟩⟩
  case round =>
    clear H'
    try clear c1
    try clear c2
    try clear p2
    try clear p6
    obtain ⟨x6_1, x8_1, x9_1, rfl, rfl, HA, HK1, HO_6, HO_7, HB⟩ := hrel
    cases gk with
    | zero => exact absurd HA.out (by simp [samphireref02_Add.l0])
    | succ k1 =>
      have H := HA.out
      clear HA
      simp only [samphireref02_Add.l0] at H
      by_cases c8 : x9_1 < (wrap64 ((wrap64 (2 * (ji3))) + 2))
      · rw [if_pos c8] at H
        have c8b0 : decide (x9_1 < (wrap64 ((wrap64 (2 * (ji3))) + 2))) = true := decide_eq_true c8
        clear c8
        obtain ⟨c9, H⟩ := ite_p H
        have c9b0 : decide (0 ≤ x9_1) = true := decide_eq_true c9
        clear c9
        obtain ⟨c10, H⟩ := ite_p H
        have c10b0 : decide (x9_1 < (x6_1.length : Int)) = true := decide_eq_true c10
        clear c10
        obtain ⟨c11, H⟩ := ite_p H
        have c11b0 : decide (x9_1 < (t541.length : Int)) = true := decide_eq_true c11
        clear c11
        obtain ⟨y546, Ny546⟩ := let_p (x6_1.set (x9_1 : Int).toNat (Int.tmod (IntKind.u64.wrap ((IntKind.u64.wrap ((rd x6_1 x9_1) + (rd t541 x9_1))) + x8_1)) 65536) : List Int)
        (first | rw [← Ny546.out] at H | simp only [← Ny546.out] at H)
        have H' := Aside0.mk H
        clear H
        obtain ⟨Ao13, co13, eo13⟩ := Kd.R_slice HO_6.out
        subst eo13
        have p544 : 0 ≤ (x9_1 : Int) := DA
        have q544 : x9_1 < (x6_1.length : Int) := DA
        obtain ⟨ad544, e544, hx544_0⟩ := Kd.at_int (Kd.R_reads' HO_6.out).2.2 x9_1 p544 q544
        cases e544
        replace p544 := eq_true p544
        replace q544 := eq_true q544
        obtain ⟨Ao14, co14, eo14⟩ := Kd.R_slice HO_7.out
        subst eo14
        have p545 : 0 ≤ (x9_1 : Int) := DA
        have q545 : x9_1 < (t541.length : Int) := DA
        obtain ⟨ad545, e545, hx545_0⟩ := Kd.at_int (Kd.R_reads' HO_7.out).2.2 x9_1 p545 q545
        cases e545
        replace p545 := eq_true p545
        replace q545 := eq_true q545
        have p12 : 0 ≤ (x9_1 : Int) := DA
        have q12 : (x9_1 : Int) < ((x6_1.length : Int) : Int) := DA
        obtain ⟨go12, co12, eo12, gb12, gl12, cl12, HG12⟩ := Kd.R_form HO_6.out (by omega)
        (first | cases eo12 | (injection eo12 with ea_ en_ ec_; (first | subst ea_ | (injection ea_ with ea_; subst ea_)); subst ec_; clear en_))
        have GB12 := Aside0.mk gb12
        have GG12 := Aside0.mk HG12
        clear gb12 gl12 HG12
        (first | simp only [add_plain] at hx544_0 | skip)
        obtain ⟨hx12_0, hf12_0⟩ := Kd.R_celln 0 HO_6.out (x9_1 : Int) p12 q12
        replace p12 := eq_true p12
        replace q12 := eq_true q12
        have HP15 := Kd.R_putg HO_6.out (x9_1 : Int) (Int.tmod (IntKind.u64.wrap ((IntKind.u64.wrap ((rd x6_1 x9_1) + (rd t541 x9_1))) + x8_1)) 65536)
        go_wp2_with (first | ((with_reducible refine gate_store (t := 37) (p := 44) rfl ?_); (try (rw [drewN_self wr]; generalize hq_ : World.drewN wr _ = wr; have n0_ := Aside0.mk (Kd.R_at hq_ HO_6.out); have n1_ := Aside0.mk (Kd.R_at hq_ HO_7.out); have n2_ := Aside0.mk (below_at hq_ HB.out); clear hq_ HO_6 HO_7 HB; have HO_6 := n0_; have HO_7 := n1_; have HB := n2_; clear n0_ n1_ n2_; (try (obtain ⟨hx12_0, hf12_0⟩ := Kd.R_celln 0 HO_6.out (x9_1 : Int) (of_eq_true p12) (of_eq_true q12))); (try (have HP15 := Kd.R_putg HO_6.out (x9_1 : Int) (Int.tmod (IntKind.u64.wrap ((IntKind.u64.wrap ((rd x6_1 x9_1) + (rd t541 x9_1))) + x8_1)) 65536))))); refine store_event (t := 37) (p := 44) (v := ?vo_w16) (w1 := (wr.setCell ⟨go12, (x9_1 : Int).toNat, none⟩ (.int .u64 (Int.tmod (IntKind.u64.wrap ((IntKind.u64.wrap ((rd x6_1 x9_1) + (rd t541 x9_1))) + x8_1)) 65536)))) ?hg ?ho ?hn ?hr ?_; (case ho => rfl); (case hg => rfl); (case hn => rfl); (case hr => first | (go_simp; done) | (go_simp; rfl)); intro w16 hw; have hg : wr.grownBy w16 (some go12) := (by rw [hw]; exact HP15.2); have hp_ : Kd.R (Kd.int .u64) 37 w16 w.heap.size (fun k_ => some k_ ≠ (.slice (some ad545) t541.length co14 : Value).ownBlock) (.slice (some ⟨go12, 0, none⟩) x6_1.length co13) y546 := (by rw [hw, Ny546.out]; exact HP15.1); clear HP15; have n0_ := Aside0.mk (hp_); have n1_ := Aside0.mk (Kd.R_after (v := (.slice (some ⟨go12, 0, none⟩) x6_1.length co13)) (v1 := (.slice (some ⟨go12, 0, none⟩) x6_1.length co13)) (ok := (fun _ => True)) (by (with_reducible repeat (first | apply Kd.R_alloc | apply Kd.R_drewN | apply Kd.R_drew)); exact Kd.R_mono HO_7.out (fun _ hk => ⟨trivial, hk⟩)) hg (.inl rfl)); have n2_ := Aside0.mk ((by rw [hw]; exact below_set (HB.out) GB12.out : Below w.heap.size w w16)); clear HO_6; clear HO_7; clear HB; have HO_6 := n0_; have HO_7 := n1_; have HB := n2_; clear n0_ n1_ n2_; clear hg hw hp_))
        repeat (go_quiet (first | ((with_reducible refine gate_store (t := 37) (p := 44) rfl ?_); (try (rw [drewN_self wr]; generalize hq_ : World.drewN wr _ = wr; have n0_ := Aside0.mk (Kd.R_at hq_ HO_6.out); have n1_ := Aside0.mk (Kd.R_at hq_ HO_7.out); have n2_ := Aside0.mk (below_at hq_ HB.out); clear hq_ HO_6 HO_7 HB; have HO_6 := n0_; have HO_7 := n1_; have HB := n2_; clear n0_ n1_ n2_; (try (obtain ⟨hx12_0, hf12_0⟩ := Kd.R_celln 0 HO_6.out (x9_1 : Int) (of_eq_true p12) (of_eq_true q12))); (try (have HP15 := Kd.R_putg HO_6.out (x9_1 : Int) (Int.tmod (IntKind.u64.wrap ((IntKind.u64.wrap ((rd x6_1 x9_1) + (rd t541 x9_1))) + x8_1)) 65536))))); refine store_event (t := 37) (p := 44) (v := ?vo_w16) (w1 := (wr.setCell ⟨go12, (x9_1 : Int).toNat, none⟩ (.int .u64 (Int.tmod (IntKind.u64.wrap ((IntKind.u64.wrap ((rd x6_1 x9_1) + (rd t541 x9_1))) + x8_1)) 65536)))) ?hg ?ho ?hn ?hr ?_; (case ho => rfl); (case hg => rfl); (case hn => rfl); (case hr => first | (go_simp; done) | (go_simp; rfl)); intro w16 hw; have hg : wr.grownBy w16 (some go12) := (by rw [hw]; exact HP15.2); have hp_ : Kd.R (Kd.int .u64) 37 w16 w.heap.size (fun k_ => some k_ ≠ (.slice (some ad545) t541.length co14 : Value).ownBlock) (.slice (some ⟨go12, 0, none⟩) x6_1.length co13) y546 := (by rw [hw, Ny546.out]; exact HP15.1); clear HP15; have n0_ := Aside0.mk (hp_); have n1_ := Aside0.mk (Kd.R_after (v := (.slice (some ⟨go12, 0, none⟩) x6_1.length co13)) (v1 := (.slice (some ⟨go12, 0, none⟩) x6_1.length co13)) (ok := (fun _ => True)) (by (with_reducible repeat (first | apply Kd.R_alloc | apply Kd.R_drewN | apply Kd.R_drew)); exact Kd.R_mono HO_7.out (fun _ hk => ⟨trivial, hk⟩)) hg (.inl rfl)); have n2_ := Aside0.mk ((by rw [hw]; exact below_set (HB.out) GB12.out : Below w.heap.size w w16)); clear HO_6; clear HO_7; clear HB; have HO_6 := n0_; have HO_7 := n1_; have HB := n2_; clear n0_ n1_ n2_; clear hg hw hp_)); try go_wp2_with (first | ((with_reducible refine gate_store (t := 37) (p := 44) rfl ?_); (try (rw [drewN_self wr]; generalize hq_ : World.drewN wr _ = wr; have n0_ := Aside0.mk (Kd.R_at hq_ HO_6.out); have n1_ := Aside0.mk (Kd.R_at hq_ HO_7.out); have n2_ := Aside0.mk (below_at hq_ HB.out); clear hq_ HO_6 HO_7 HB; have HO_6 := n0_; have HO_7 := n1_; have HB := n2_; clear n0_ n1_ n2_; (try (obtain ⟨hx12_0, hf12_0⟩ := Kd.R_celln 0 HO_6.out (x9_1 : Int) (of_eq_true p12) (of_eq_true q12))); (try (have HP15 := Kd.R_putg HO_6.out (x9_1 : Int) (Int.tmod (IntKind.u64.wrap ((IntKind.u64.wrap ((rd x6_1 x9_1) + (rd t541 x9_1))) + x8_1)) 65536))))); refine store_event (t := 37) (p := 44) (v := ?vo_w16) (w1 := (wr.setCell ⟨go12, (x9_1 : Int).toNat, none⟩ (.int .u64 (Int.tmod (IntKind.u64.wrap ((IntKind.u64.wrap ((rd x6_1 x9_1) + (rd t541 x9_1))) + x8_1)) 65536)))) ?hg ?ho ?hn ?hr ?_; (case ho => rfl); (case hg => rfl); (case hn => rfl); (case hr => first | (go_simp; done) | (go_simp; rfl)); intro w16 hw; have hg : wr.grownBy w16 (some go12) := (by rw [hw]; exact HP15.2); have hp_ : Kd.R (Kd.int .u64) 37 w16 w.heap.size (fun k_ => some k_ ≠ (.slice (some ad545) t541.length co14 : Value).ownBlock) (.slice (some ⟨go12, 0, none⟩) x6_1.length co13) y546 := (by rw [hw, Ny546.out]; exact HP15.1); clear HP15; have n0_ := Aside0.mk (hp_); have n1_ := Aside0.mk (Kd.R_after (v := (.slice (some ⟨go12, 0, none⟩) x6_1.length co13)) (v1 := (.slice (some ⟨go12, 0, none⟩) x6_1.length co13)) (ok := (fun _ => True)) (by (with_reducible repeat (first | apply Kd.R_alloc | apply Kd.R_drewN | apply Kd.R_drew)); exact Kd.R_mono HO_7.out (fun _ hk => ⟨trivial, hk⟩)) hg (.inl rfl)); have n2_ := Aside0.mk ((by rw [hw]; exact below_set (HB.out) GB12.out : Below w.heap.size w w16)); clear HO_6; clear HO_7; clear HB; have HO_6 := n0_; have HO_7 := n1_; have HB := n2_; clear n0_ n1_ n2_; clear hg hw hp_)))
        go_roundg k1
        case measure => have := HK1.out; omega
        case rel => exact ⟨(y546), (IntKind.u64.wrap (Int.tdiv (IntKind.u64.wrap ((IntKind.u64.wrap ((rd x6_1 x9_1) + (rd t541 x9_1))) + x8_1)) 65536)), (wrap64 (x9_1 + 1)), (by first | rfl | (simp; done) | (simp [*]; done) | (simp; exact isEmpty_bne _)), (by first | rfl | (simp; done) | (simp [*]; done) | (simp; exact isEmpty_bne _)), H', ⟨by have := HK1.out; omega⟩, ⟨by (with_reducible repeat (first | apply Kd.R_alloc | apply Kd.R_drewN | apply Kd.R_drew)); exact HO_6.out⟩, ⟨by (with_reducible repeat (first | apply Kd.R_alloc | apply Kd.R_drewN | apply Kd.R_drew)); exact Kd.R_mono HO_7.out (fun _ hk => hk.2)⟩, ⟨BL⟩⟩
      · rw [if_neg c8] at H
        have c8b0 : decide (x9_1 < (wrap64 ((wrap64 (2 * (ji3))) + 2))) = false := decide_eq_false c8
        clear c8
        obtain ⟨t547, A17, H⟩ := bind_p H
        obtain rfl := Option.some.inj H
        obtain ⟨Ao18, co18, eo18⟩ := Kd.R_slice HO_6.out
        subst eo18
        go_wp2_with (first | (go_at_call 48; (with_reducible refine (samphireref02_Whole.calls k1 _ _ x6_1 t547 _ ?side1 ?side2 A17.out).mono ?_); (case side1 => exact RR HO_6); (case side2 => exact (Kd.R_reads' HO_6.out).2.1); rintro e w19 ⟨v548, rfl, ho0, hb⟩; have n0_ := Aside0.mk (Kd.R_below (RL HO_6) hb); have n1_ := Aside0.mk (Kd.R_below (RL HO_7) hb); have n2_ := Aside0.mk (Kd.R_lower ho0 (below_size BL)); have n3_ := Aside0.mk (below_step BL hb); clear HO_6; clear HO_7; clear HB; have HO_6 := n0_; have HO_7 := n1_; have HO549 := n2_; have HB := n3_; clear n0_ n1_ n2_ n3_; (try clear hb); (try clear hb2); (try clear hk); (try clear hi); (try clear ho0)))
        repeat (go_quiet (first | (go_at_call 48; (with_reducible refine (samphireref02_Whole.calls k1 _ _ x6_1 t547 _ ?side1 ?side2 A17.out).mono ?_); (case side1 => exact RR HO_6); (case side2 => exact (Kd.R_reads' HO_6.out).2.1); rintro e w19 ⟨v548, rfl, ho0, hb⟩; have n0_ := Aside0.mk (Kd.R_below (RL HO_6) hb); have n1_ := Aside0.mk (Kd.R_below (RL HO_7) hb); have n2_ := Aside0.mk (Kd.R_lower ho0 (below_size BL)); have n3_ := Aside0.mk (below_step BL hb); clear HO_6; clear HO_7; clear HB; have HO_6 := n0_; have HO_7 := n1_; have HO549 := n2_; have HB := n3_; clear n0_ n1_ n2_ n3_; (try clear hb); (try clear hb2); (try clear hk); (try clear hi); (try clear ho0))); try go_wp2_with (first | (go_at_call 48; (with_reducible refine (samphireref02_Whole.calls k1 _ _ x6_1 t547 _ ?side1 ?side2 A17.out).mono ?_); (case side1 => exact RR HO_6); (case side2 => exact (Kd.R_reads' HO_6.out).2.1); rintro e w19 ⟨v548, rfl, ho0, hb⟩; have n0_ := Aside0.mk (Kd.R_below (RL HO_6) hb); have n1_ := Aside0.mk (Kd.R_below (RL HO_7) hb); have n2_ := Aside0.mk (Kd.R_lower ho0 (below_size BL)); have n3_ := Aside0.mk (below_step BL hb); clear HO_6; clear HO_7; clear HB; have HO_6 := n0_; have HO_7 := n1_; have HO549 := n2_; have HB := n3_; clear n0_ n1_ n2_ n3_; (try clear hb); (try clear hb2); (try clear hk); (try clear hi); (try clear ho0))))
        go_ret
        exact ⟨_, by first | rfl | (simp [errW_none, errW_some] <;> rfl) | (simp only [← hji3]; first | rfl | (simp [errW_none, errW_some] <;> rfl)) | (simp [*, errW_none, errW_some] <;> rfl), by (with_reducible repeat (first | apply Kd.R_alloc | apply Kd.R_drewN | apply Kd.R_drew)); exact HO549.out, BL⟩

/-! ### samphireref02_Mul: function 26 -/
set_option maxHeartbeats 8000000 in
set_option maxRecDepth 100000 in
theorem samphireref02_Mul.calls (k : Nat) (A0 : Option Addr) (c0 : Nat) (l0 : List Int) (A1 : Option Addr) (c1 : Nat) (l1 : List Int) (r : List Int) (w : World) (hr0 : Kd.C (Kd.int .u32) w A0 l0.length l0) (hc0 : l0.length ≤ c0) (hr1 : Kd.C (Kd.int .u32) w A1 l1.length l1) (hc1 : l1.length ≤ c1) (h : samphireref02_Mul.f k l0 l1 = some r) :
    Calls Tryd.prog 26 #[.slice A0 l0.length c0, .slice A1 l1.length c1] w fun e w' => ∃ v0_ : Value, e = .returned (v0_) ∧ Kd.R (Kd.int .u32) 36 w' w.heap.size (fun _ => True) v0_ r ∧ Below w.heap.size w w' := by
  have HR0 := Aside0.mk hr0
  have HC0 := Aside0.mk hc0
  clear hr0 hc0
  have HR1 := Aside0.mk hr1
  have HC1 := Aside0.mk hc1
  clear hr1 hc1
  have HB := Aside0.mk (Below.refl w.heap.size w)
  have H : ((samphireref02_Half.f k l0 (wrap64 (2 * (l0.length : Int)))).bind fun t550 => ((samphireref02_Half.f k l1 (wrap64 (2 * (l1.length : Int)))).bind fun t553 => (if 0 ≤ (wrap64 ((wrap64 ((wrap64 (2 * (l0.length : Int))) + (wrap64 (2 * (l1.length : Int))))) + 2)) then (if (wrap64 ((wrap64 ((wrap64 (2 * (l0.length : Int))) + (wrap64 (2 * (l1.length : Int))))) + 2) : Int).toNat ≤ 35184372088832 then (samphireref02_Mul.l0 k (wrap64 (2 * (l0.length : Int))) (wrap64 (2 * (l1.length : Int))) t550 t553 (List.replicate (wrap64 ((wrap64 ((wrap64 (2 * (l0.length : Int))) + (wrap64 (2 * (l1.length : Int))))) + 2) : Int).toNat 0) 0) else (none)) else (none)))) = some r := h
  clear h
  obtain ⟨t550, A3, H⟩ := bind_p H
  obtain ⟨t553, A4, H⟩ := bind_p H
  obtain ⟨ji5, hji5⟩ := let_j (wrap64 ((wrap64 ((wrap64 (2 * (l0.length : Int))) + (wrap64 (2 * (l1.length : Int))))) + 2))
  (first | rw [hji5] at H | simp only [hji5] at H ⊢)
  (try rw [hji5] at A3)
  (try rw [hji5] at A4)
  have hji5w : (IntKind.i64.wrap ((wrap64 ((wrap64 (2 * (l0.length : Int))) + (wrap64 (2 * (l1.length : Int))))) + 2)) = ji5 := (i64_w _).trans hji5
  obtain ⟨c6, H⟩ := ite_p H
  have c6b0 := eq_true c6
  have c6b1 : decide (0 ≤ (ji5)) = true := decide_eq_true c6
  clear c6
  obtain ⟨c7, H⟩ := ite_p H
  have c7b0 := eq_true c7
  have c7b1 : decide ((ji5 : Int).toNat ≤ 35184372088832) = true := decide_eq_true c7
  clear c7
  obtain ⟨y556, Ny556⟩ := let_p (List.replicate (ji5 : Int).toNat 0 : List Int)
  (first | rw [← Ny556.out] at H | simp only [← Ny556.out] at H)
  have H' := Aside0.mk H
  clear H
  go_enter Tryd.func26, Tryd.ntmps26
  go_wp2_with (first | (go_at_call 47; (with_reducible refine (samphireref02_Half.calls k _ _ l0 (wrap64 (2 * (l0.length : Int))) t550 _ ?side1 ?side2 A3.out).mono ?_); (case side1 => repeat (first | exact HR0.out | (with_reducible refine Kd.C_alloc ?_ _) | (with_reducible refine Kd.C_drewN ?_ _) | (with_reducible refine Kd.C_drew ?_))); (case side2 => exact HC0.out); rintro e w8 ⟨v551, rfl, ho0, hb⟩; have n0_ := Aside0.mk (Kd.R_lower ho0 (below_size BL)); have n1_ := Aside0.mk (below_step BL hb); clear HB; have HO552 := n0_; have HB := n1_; clear n0_ n1_; (try clear hb); (try clear hb2); (try clear hk); (try clear hi); (try clear ho0)) | (go_at_call 47; (with_reducible refine (samphireref02_Half.calls k _ _ l1 (wrap64 (2 * (l1.length : Int))) t553 _ ?side1 ?side2 A4.out).mono ?_); (case side1 => exact CB HR1); (case side2 => exact HC1.out); rintro e w9 ⟨v554, rfl, ho0, hb⟩; have n0_ := Aside0.mk (Kd.R_elder' (RL HO552) (Kd.R_base ho0) hb); have n1_ := Aside0.mk (Kd.R_lower (Kd.R_new' ho0 (Kd.R_lt (RL HO552))) (below_size BL)); have n2_ := Aside0.mk (below_step BL hb); clear HO552; clear HB; have HO552 := n0_; have HO555 := n1_; have HB := n2_; clear n0_ n1_ n2_; (try clear hb); (try clear hb2); (try clear hk); (try clear hi); (try clear ho0)) | ((with_reducible refine gate_dst (N := 30) rfl ?_); refine Kd.R_make (Kd.int .u64) _ 37 rfl (N := 30) rfl 57 _ _ rfl ji5 rfl rfl Tryd.underlying57 (.int .u64 0) 8 info37 rfl (by decide) (by omega) 0 (ok := fun _ => True) (okp := fun _ => True) rfl (fun _ hk => hk) trivial (DA) (Nat.le_trans (Nat.mul_le_mul_right _ (DA : ji5.toNat ≤ 35184372088832)) (by omega)) (Below.refl _ _) (Nat.le_refl _) ?_; intro v557 w10 ho11 hb hg_ hnew_; clear hg_ hnew_; (first | rw [← Ny556.out] at ho11 | (simp only [Int.reduceToNat] at ho11; rw [← Ny556.out] at ho11)); have n0_ := Aside0.mk (Kd.R_elder' (RL HO552) (Kd.R_base ho11) hb); have n1_ := Aside0.mk (Kd.R_elder' (RL HO555) (Kd.R_base ho11) hb); have n2_ := Aside0.mk (Kd.R_lower (Kd.R_new' (Kd.R_new' ho11 (Kd.R_lt (RL HO552))) (Kd.R_lt (RL HO555))) (below_size BL)); have n3_ := Aside0.mk (below_step BL hb); clear HO552; clear HO555; clear HB; have HO552 := n0_; have HO555 := n1_; have HO558 := n2_; have HB := n3_; clear n0_ n1_ n2_ n3_; clear hb ho11))
  repeat (go_quiet (first | (go_at_call 47; (with_reducible refine (samphireref02_Half.calls k _ _ l0 (wrap64 (2 * (l0.length : Int))) t550 _ ?side1 ?side2 A3.out).mono ?_); (case side1 => repeat (first | exact HR0.out | (with_reducible refine Kd.C_alloc ?_ _) | (with_reducible refine Kd.C_drewN ?_ _) | (with_reducible refine Kd.C_drew ?_))); (case side2 => exact HC0.out); rintro e w8 ⟨v551, rfl, ho0, hb⟩; have n0_ := Aside0.mk (Kd.R_lower ho0 (below_size BL)); have n1_ := Aside0.mk (below_step BL hb); clear HB; have HO552 := n0_; have HB := n1_; clear n0_ n1_; (try clear hb); (try clear hb2); (try clear hk); (try clear hi); (try clear ho0)) | (go_at_call 47; (with_reducible refine (samphireref02_Half.calls k _ _ l1 (wrap64 (2 * (l1.length : Int))) t553 _ ?side1 ?side2 A4.out).mono ?_); (case side1 => exact CB HR1); (case side2 => exact HC1.out); rintro e w9 ⟨v554, rfl, ho0, hb⟩; have n0_ := Aside0.mk (Kd.R_elder' (RL HO552) (Kd.R_base ho0) hb); have n1_ := Aside0.mk (Kd.R_lower (Kd.R_new' ho0 (Kd.R_lt (RL HO552))) (below_size BL)); have n2_ := Aside0.mk (below_step BL hb); clear HO552; clear HB; have HO552 := n0_; have HO555 := n1_; have HB := n2_; clear n0_ n1_ n2_; (try clear hb); (try clear hb2); (try clear hk); (try clear hi); (try clear ho0)) | ((with_reducible refine gate_dst (N := 30) rfl ?_); refine Kd.R_make (Kd.int .u64) _ 37 rfl (N := 30) rfl 57 _ _ rfl ji5 rfl rfl Tryd.underlying57 (.int .u64 0) 8 info37 rfl (by decide) (by omega) 0 (ok := fun _ => True) (okp := fun _ => True) rfl (fun _ hk => hk) trivial (DA) (Nat.le_trans (Nat.mul_le_mul_right _ (DA : ji5.toNat ≤ 35184372088832)) (by omega)) (Below.refl _ _) (Nat.le_refl _) ?_; intro v557 w10 ho11 hb hg_ hnew_; clear hg_ hnew_; (first | rw [← Ny556.out] at ho11 | (simp only [Int.reduceToNat] at ho11; rw [← Ny556.out] at ho11)); have n0_ := Aside0.mk (Kd.R_elder' (RL HO552) (Kd.R_base ho11) hb); have n1_ := Aside0.mk (Kd.R_elder' (RL HO555) (Kd.R_base ho11) hb); have n2_ := Aside0.mk (Kd.R_lower (Kd.R_new' (Kd.R_new' ho11 (Kd.R_lt (RL HO552))) (Kd.R_lt (RL HO555))) (below_size BL)); have n3_ := Aside0.mk (below_step BL hb); clear HO552; clear HO555; clear HB; have HO552 := n0_; have HO555 := n1_; have HO558 := n2_; have HB := n3_; clear n0_ n1_ n2_ n3_; clear hb ho11)); try go_wp2_with (first | (go_at_call 47; (with_reducible refine (samphireref02_Half.calls k _ _ l0 (wrap64 (2 * (l0.length : Int))) t550 _ ?side1 ?side2 A3.out).mono ?_); (case side1 => repeat (first | exact HR0.out | (with_reducible refine Kd.C_alloc ?_ _) | (with_reducible refine Kd.C_drewN ?_ _) | (with_reducible refine Kd.C_drew ?_))); (case side2 => exact HC0.out); rintro e w8 ⟨v551, rfl, ho0, hb⟩; have n0_ := Aside0.mk (Kd.R_lower ho0 (below_size BL)); have n1_ := Aside0.mk (below_step BL hb); clear HB; have HO552 := n0_; have HB := n1_; clear n0_ n1_; (try clear hb); (try clear hb2); (try clear hk); (try clear hi); (try clear ho0)) | (go_at_call 47; (with_reducible refine (samphireref02_Half.calls k _ _ l1 (wrap64 (2 * (l1.length : Int))) t553 _ ?side1 ?side2 A4.out).mono ?_); (case side1 => exact CB HR1); (case side2 => exact HC1.out); rintro e w9 ⟨v554, rfl, ho0, hb⟩; have n0_ := Aside0.mk (Kd.R_elder' (RL HO552) (Kd.R_base ho0) hb); have n1_ := Aside0.mk (Kd.R_lower (Kd.R_new' ho0 (Kd.R_lt (RL HO552))) (below_size BL)); have n2_ := Aside0.mk (below_step BL hb); clear HO552; clear HB; have HO552 := n0_; have HO555 := n1_; have HB := n2_; clear n0_ n1_ n2_; (try clear hb); (try clear hb2); (try clear hk); (try clear hi); (try clear ho0)) | ((with_reducible refine gate_dst (N := 30) rfl ?_); refine Kd.R_make (Kd.int .u64) _ 37 rfl (N := 30) rfl 57 _ _ rfl ji5 rfl rfl Tryd.underlying57 (.int .u64 0) 8 info37 rfl (by decide) (by omega) 0 (ok := fun _ => True) (okp := fun _ => True) rfl (fun _ hk => hk) trivial (DA) (Nat.le_trans (Nat.mul_le_mul_right _ (DA : ji5.toNat ≤ 35184372088832)) (by omega)) (Below.refl _ _) (Nat.le_refl _) ?_; intro v557 w10 ho11 hb hg_ hnew_; clear hg_ hnew_; (first | rw [← Ny556.out] at ho11 | (simp only [Int.reduceToNat] at ho11; rw [← Ny556.out] at ho11)); have n0_ := Aside0.mk (Kd.R_elder' (RL HO552) (Kd.R_base ho11) hb); have n1_ := Aside0.mk (Kd.R_elder' (RL HO555) (Kd.R_base ho11) hb); have n2_ := Aside0.mk (Kd.R_lower (Kd.R_new' (Kd.R_new' ho11 (Kd.R_lt (RL HO552))) (Kd.R_lt (RL HO555))) (below_size BL)); have n3_ := Aside0.mk (below_step BL hb); clear HO552; clear HO555; clear HB; have HO552 := n0_; have HO555 := n1_; have HO558 := n2_; have HB := n3_; clear n0_ n1_ n2_ n3_; clear hb ho11)))
  go_loopg [10] k (fun kq v10 w' => ∃ (x9_1 : List Int) (x10_1 : Int), v10 = .int .i64 x10_1 ∧ Aside0 (samphireref02_Mul.l0 kq (wrap64 (2 * (l0.length : Int))) (wrap64 (2 * (l1.length : Int))) t550 t553 x9_1 x10_1 = some r) ∧ Aside0 (kq ≤ k) ∧ Aside0 (Kd.R (Kd.int .u64) 37 w' w.heap.size (fun k_ => some k_ ≠ (v554 : Value).ownBlock ∧ some k_ ≠ (v557 : Value).ownBlock) v551 t550) ∧ Aside0 (Kd.R (Kd.int .u64) 37 w' w.heap.size (fun k_ => some k_ ≠ (v551 : Value).ownBlock ∧ some k_ ≠ (v557 : Value).ownBlock) v554 t553) ∧ Aside0 (Kd.R (Kd.int .u64) 37 w' w.heap.size (fun k_ => some k_ ≠ (v551 : Value).ownBlock ∧ some k_ ≠ (v554 : Value).ownBlock) v557 x9_1) ∧ Aside0 (Below w.heap.size w w'))
  case atStart => exact ⟨(y556), (0), (by first | rfl | (simp; done) | (simp [*]; done) | (simp; exact isEmpty_bne _)), H', ⟨Nat.le_refl _⟩, ⟨by (with_reducible repeat (first | apply Kd.R_alloc | apply Kd.R_drewN | apply Kd.R_drew)); exact Kd.R_mono HO552.out (fun _ hk => ⟨hk.1.2, hk.2⟩)⟩, ⟨by (with_reducible repeat (first | apply Kd.R_alloc | apply Kd.R_drewN | apply Kd.R_drew)); exact Kd.R_mono HO555.out (fun _ hk => ⟨hk.1.2, hk.2⟩)⟩, ⟨by (with_reducible repeat (first | apply Kd.R_alloc | apply Kd.R_drewN | apply Kd.R_drew)); exact Kd.R_mono HO558.out (fun _ hk => ⟨hk.1.2, hk.2⟩)⟩, ⟨BL⟩⟩
  case round =>
    clear H'
    try clear c1
    try clear c2
    try clear p2
    try clear c6
    try clear c6b0
    try clear c6b1
    try clear p6
    try clear c7
    try clear c7b0
    try clear c7b1
    obtain ⟨x9_1, x10_1, rfl, HA, HK1, HO_7, HO_8, HO_9, HB⟩ := hrel
    cases gk with
    | zero => exact absurd HA.out (by simp [samphireref02_Mul.l0])
    | succ k1 =>
      have H := HA.out
      clear HA
      simp only [samphireref02_Mul.l0] at H
      by_cases c12 : x10_1 < (wrap64 (2 * (l0.length : Int)))
      · rw [if_pos c12] at H
        have c12b0 : decide (x10_1 < (wrap64 (2 * (l0.length : Int)))) = true := decide_eq_true c12
        clear c12
        have H' := Aside0.mk H
        clear H
        go_wp2
        repeat (go_quiet (fail); try go_wp2)
        go_loopg [11, 12] k1 (fun kq v11 v12 w' => ∃ (x9_2 : List Int) (x11_2 : Int) (x12_2 : Int), v11 = .int .u64 x11_2 ∧ v12 = .int .i64 x12_2 ∧ Aside0 (samphireref02_Mul.l1 kq (wrap64 (2 * (l0.length : Int))) (wrap64 (2 * (l1.length : Int))) t550 t553 x9_2 x10_1 x11_2 x12_2 = some r) ∧ Aside0 (kq ≤ k1) ∧ Aside0 (Kd.R (Kd.int .u64) 37 w' w.heap.size (fun k_ => some k_ ≠ (v554 : Value).ownBlock ∧ some k_ ≠ (v557 : Value).ownBlock) v551 t550) ∧ Aside0 (Kd.R (Kd.int .u64) 37 w' w.heap.size (fun k_ => some k_ ≠ (v551 : Value).ownBlock ∧ some k_ ≠ (v557 : Value).ownBlock) v554 t553) ∧ Aside0 (Kd.R (Kd.int .u64) 37 w' w.heap.size (fun k_ => some k_ ≠ (v551 : Value).ownBlock ∧ some k_ ≠ (v554 : Value).ownBlock) v557 x9_2) ∧ Aside0 (Below w.heap.size w w'))
        case atStart => exact ⟨(x9_1), (0), (0), (by first | rfl | (simp; done) | (simp [*]; done) | (simp; exact isEmpty_bne _)), (by first | rfl | (simp; done) | (simp [*]; done) | (simp; exact isEmpty_bne _)), H', ⟨Nat.le_refl _⟩, ⟨by (with_reducible repeat (first | apply Kd.R_alloc | apply Kd.R_drewN | apply Kd.R_drew)); exact HO_7.out⟩, ⟨by (with_reducible repeat (first | apply Kd.R_alloc | apply Kd.R_drewN | apply Kd.R_drew)); exact HO_8.out⟩, ⟨by (with_reducible repeat (first | apply Kd.R_alloc | apply Kd.R_drewN | apply Kd.R_drew)); exact HO_9.out⟩, ⟨BL⟩⟩
        case round =>
          clear H'
          try clear c1
          try clear c2
          try clear p2
          try clear c6
          try clear c6b0
          try clear c6b1
          try clear p6
          try clear c7
          try clear c7b0
          try clear c7b1
          try clear c12
          try clear c12b0
          try clear p2
          try clear p6
          obtain ⟨x9_2, x11_2, x12_2, rfl, rfl, HA, HK2, HO_7, HO_8, HO_9, HB⟩ := hrel
          cases gk with
          | zero => exact absurd HA.out (by simp [samphireref02_Mul.l1])
          | succ k2 =>
            have H := HA.out
            clear HA
            simp only [samphireref02_Mul.l1] at H
            by_cases c13 : x12_2 < (wrap64 (2 * (l1.length : Int)))
            · rw [if_pos c13] at H
              have c13b0 : decide (x12_2 < (wrap64 (2 * (l1.length : Int)))) = true := decide_eq_true c13
              clear c13
              obtain ⟨ji14, hji14⟩ := let_j (wrap64 (x10_1 + x12_2))
              (first | rw [hji14] at H | simp only [hji14] at H ⊢)
              have hji14w : (IntKind.i64.wrap (x10_1 + x12_2)) = ji14 := (i64_w _).trans hji14
              obtain ⟨c15, H⟩ := ite_p H
              have c15b0 : decide (0 ≤ (ji14)) = true := decide_eq_true c15
              clear c15
              obtain ⟨c16, H⟩ := ite_p H
              have c16b0 : decide ((ji14) < (x9_2.length : Int)) = true := decide_eq_true c16
              clear c16
              obtain ⟨c17, H⟩ := ite_p H
              have c17b0 : decide (0 ≤ x10_1) = true := decide_eq_true c17
              clear c17
              obtain ⟨c18, H⟩ := ite_p H
              have c18b0 : decide (x10_1 < (t550.length : Int)) = true := decide_eq_true c18
              clear c18
              obtain ⟨c19, H⟩ := ite_p H
              have c19b0 : decide (0 ≤ x12_2) = true := decide_eq_true c19
              clear c19
              obtain ⟨c20, H⟩ := ite_p H
              have c20b0 : decide (x12_2 < (t553.length : Int)) = true := decide_eq_true c20
              clear c20
              obtain ⟨y565, Ny565⟩ := let_p (x9_2.set ((ji14) : Int).toNat (Int.tmod (IntKind.u64.wrap ((IntKind.u64.wrap ((rd x9_2 (ji14)) + (IntKind.u64.wrap ((rd t550 x10_1) * (rd t553 x12_2))))) + x11_2)) 65536) : List Int)
              (first | rw [← Ny565.out] at H | simp only [← Ny565.out] at H)
              have H' := Aside0.mk H
              clear H
              obtain ⟨Ao22, co22, eo22⟩ := Kd.R_slice HO_9.out
              subst eo22
              have p562 : 0 ≤ ((ji14) : Int) := DA
              have q562 : (ji14) < (x9_2.length : Int) := DA
              obtain ⟨ad562, e562, hx562_0⟩ := Kd.at_int (Kd.R_reads' HO_9.out).2.2 (ji14) p562 q562
              cases e562
              replace p562 := eq_true p562
              replace q562 := eq_true q562
              obtain ⟨Ao23, co23, eo23⟩ := Kd.R_slice HO_7.out
              subst eo23
              have p563 : 0 ≤ (x10_1 : Int) := DA
              have q563 : x10_1 < (t550.length : Int) := DA
              obtain ⟨ad563, e563, hx563_0⟩ := Kd.at_int (Kd.R_reads' HO_7.out).2.2 x10_1 p563 q563
              cases e563
              replace p563 := eq_true p563
              replace q563 := eq_true q563
              obtain ⟨Ao24, co24, eo24⟩ := Kd.R_slice HO_8.out
              subst eo24
              have p564 : 0 ≤ (x12_2 : Int) := DA
              have q564 : x12_2 < (t553.length : Int) := DA
              obtain ⟨ad564, e564, hx564_0⟩ := Kd.at_int (Kd.R_reads' HO_8.out).2.2 x12_2 p564 q564
              cases e564
              replace p564 := eq_true p564
              replace q564 := eq_true q564
              have p21 : 0 ≤ ((ji14) : Int) := DA
              have q21 : ((ji14) : Int) < ((x9_2.length : Int) : Int) := DA
              obtain ⟨go21, co21, eo21, gb21, gl21, cl21, HG21⟩ := Kd.R_form HO_9.out (by omega)
              (first | cases eo21 | (injection eo21 with ea_ en_ ec_; (first | subst ea_ | (injection ea_ with ea_; subst ea_)); subst ec_; clear en_))
              have GB21 := Aside0.mk gb21
              have GG21 := Aside0.mk HG21
              clear gb21 gl21 HG21
              (first | simp only [add_plain] at hx562_0 | skip)
              obtain ⟨hx21_0, hf21_0⟩ := Kd.R_celln 0 HO_9.out ((ji14) : Int) p21 q21
              replace p21 := eq_true p21
              replace q21 := eq_true q21
              have HP25 := Kd.R_putg HO_9.out ((ji14) : Int) (Int.tmod (IntKind.u64.wrap ((IntKind.u64.wrap ((rd x9_2 (ji14)) + (IntKind.u64.wrap ((rd t550 x10_1) * (rd t553 x12_2))))) + x11_2)) 65536)
              go_wp2_with (first | ((with_reducible refine gate_store (t := 37) (p := 65) rfl ?_); (try (rw [drewN_self wr]; generalize hq_ : World.drewN wr _ = wr; have n0_ := Aside0.mk (Kd.R_at hq_ HO_7.out); have n1_ := Aside0.mk (Kd.R_at hq_ HO_8.out); have n2_ := Aside0.mk (Kd.R_at hq_ HO_9.out); have n3_ := Aside0.mk (below_at hq_ HB.out); clear hq_ HO_7 HO_8 HO_9 HB; have HO_7 := n0_; have HO_8 := n1_; have HO_9 := n2_; have HB := n3_; clear n0_ n1_ n2_ n3_; (try (obtain ⟨hx21_0, hf21_0⟩ := Kd.R_celln 0 HO_9.out ((ji14) : Int) (of_eq_true p21) (of_eq_true q21))); (try (have HP25 := Kd.R_putg HO_9.out ((ji14) : Int) (Int.tmod (IntKind.u64.wrap ((IntKind.u64.wrap ((rd x9_2 (ji14)) + (IntKind.u64.wrap ((rd t550 x10_1) * (rd t553 x12_2))))) + x11_2)) 65536))))); refine store_event (t := 37) (p := 65) (v := ?vo_w26) (w1 := (wr.setCell ⟨go21, ((ji14) : Int).toNat, none⟩ (.int .u64 (Int.tmod (IntKind.u64.wrap ((IntKind.u64.wrap ((rd x9_2 (ji14)) + (IntKind.u64.wrap ((rd t550 x10_1) * (rd t553 x12_2))))) + x11_2)) 65536)))) ?hg ?ho ?hn ?hr ?_; (case ho => rfl); (case hg => rfl); (case hn => rfl); (case hr => first | (go_simp; done) | (go_simp; rfl)); intro w26 hw; have hg : wr.grownBy w26 (some go21) := (by rw [hw]; exact HP25.2); have hp_ : Kd.R (Kd.int .u64) 37 w26 w.heap.size (fun k_ => some k_ ≠ (.slice (some ad563) t550.length co23 : Value).ownBlock ∧ some k_ ≠ (.slice (some ad564) t553.length co24 : Value).ownBlock) (.slice (some ⟨go21, 0, none⟩) x9_2.length co22) y565 := (by rw [hw, Ny565.out]; exact HP25.1); clear HP25; have n0_ := Aside0.mk (Kd.R_after (v := (.slice (some ⟨go21, 0, none⟩) x9_2.length co22)) (v1 := (.slice (some ⟨go21, 0, none⟩) x9_2.length co22)) (ok := (fun k_ => some k_ ≠ (.slice (some ad564) t553.length co24 : Value).ownBlock)) (RL HO_7) hg (.inl rfl)); have n1_ := Aside0.mk (Kd.R_after (v := (.slice (some ⟨go21, 0, none⟩) x9_2.length co22)) (v1 := (.slice (some ⟨go21, 0, none⟩) x9_2.length co22)) (ok := (fun k_ => some k_ ≠ (.slice (some ad563) t550.length co23 : Value).ownBlock)) (RL HO_8) hg (.inl rfl)); have n2_ := Aside0.mk (hp_); have n3_ := Aside0.mk ((by rw [hw]; exact below_set (HB.out) GB21.out : Below w.heap.size w w26)); clear HO_7; clear HO_8; clear HO_9; clear HB; have HO_7 := n0_; have HO_8 := n1_; have HO_9 := n2_; have HB := n3_; clear n0_ n1_ n2_ n3_; clear hg hw hp_))
              repeat (go_quiet (first | ((with_reducible refine gate_store (t := 37) (p := 65) rfl ?_); (try (rw [drewN_self wr]; generalize hq_ : World.drewN wr _ = wr; have n0_ := Aside0.mk (Kd.R_at hq_ HO_7.out); have n1_ := Aside0.mk (Kd.R_at hq_ HO_8.out); have n2_ := Aside0.mk (Kd.R_at hq_ HO_9.out); have n3_ := Aside0.mk (below_at hq_ HB.out); clear hq_ HO_7 HO_8 HO_9 HB; have HO_7 := n0_; have HO_8 := n1_; have HO_9 := n2_; have HB := n3_; clear n0_ n1_ n2_ n3_; (try (obtain ⟨hx21_0, hf21_0⟩ := Kd.R_celln 0 HO_9.out ((ji14) : Int) (of_eq_true p21) (of_eq_true q21))); (try (have HP25 := Kd.R_putg HO_9.out ((ji14) : Int) (Int.tmod (IntKind.u64.wrap ((IntKind.u64.wrap ((rd x9_2 (ji14)) + (IntKind.u64.wrap ((rd t550 x10_1) * (rd t553 x12_2))))) + x11_2)) 65536))))); refine store_event (t := 37) (p := 65) (v := ?vo_w26) (w1 := (wr.setCell ⟨go21, ((ji14) : Int).toNat, none⟩ (.int .u64 (Int.tmod (IntKind.u64.wrap ((IntKind.u64.wrap ((rd x9_2 (ji14)) + (IntKind.u64.wrap ((rd t550 x10_1) * (rd t553 x12_2))))) + x11_2)) 65536)))) ?hg ?ho ?hn ?hr ?_; (case ho => rfl); (case hg => rfl); (case hn => rfl); (case hr => first | (go_simp; done) | (go_simp; rfl)); intro w26 hw; have hg : wr.grownBy w26 (some go21) := (by rw [hw]; exact HP25.2); have hp_ : Kd.R (Kd.int .u64) 37 w26 w.heap.size (fun k_ => some k_ ≠ (.slice (some ad563) t550.length co23 : Value).ownBlock ∧ some k_ ≠ (.slice (some ad564) t553.length co24 : Value).ownBlock) (.slice (some ⟨go21, 0, none⟩) x9_2.length co22) y565 := (by rw [hw, Ny565.out]; exact HP25.1); clear HP25; have n0_ := Aside0.mk (Kd.R_after (v := (.slice (some ⟨go21, 0, none⟩) x9_2.length co22)) (v1 := (.slice (some ⟨go21, 0, none⟩) x9_2.length co22)) (ok := (fun k_ => some k_ ≠ (.slice (some ad564) t553.length co24 : Value).ownBlock)) (RL HO_7) hg (.inl rfl)); have n1_ := Aside0.mk (Kd.R_after (v := (.slice (some ⟨go21, 0, none⟩) x9_2.length co22)) (v1 := (.slice (some ⟨go21, 0, none⟩) x9_2.length co22)) (ok := (fun k_ => some k_ ≠ (.slice (some ad563) t550.length co23 : Value).ownBlock)) (RL HO_8) hg (.inl rfl)); have n2_ := Aside0.mk (hp_); have n3_ := Aside0.mk ((by rw [hw]; exact below_set (HB.out) GB21.out : Below w.heap.size w w26)); clear HO_7; clear HO_8; clear HO_9; clear HB; have HO_7 := n0_; have HO_8 := n1_; have HO_9 := n2_; have HB := n3_; clear n0_ n1_ n2_ n3_; clear hg hw hp_)); try go_wp2_with (first | ((with_reducible refine gate_store (t := 37) (p := 65) rfl ?_); (try (rw [drewN_self wr]; generalize hq_ : World.drewN wr _ = wr; have n0_ := Aside0.mk (Kd.R_at hq_ HO_7.out); have n1_ := Aside0.mk (Kd.R_at hq_ HO_8.out); have n2_ := Aside0.mk (Kd.R_at hq_ HO_9.out); have n3_ := Aside0.mk (below_at hq_ HB.out); clear hq_ HO_7 HO_8 HO_9 HB; have HO_7 := n0_; have HO_8 := n1_; have HO_9 := n2_; have HB := n3_; clear n0_ n1_ n2_ n3_; (try (obtain ⟨hx21_0, hf21_0⟩ := Kd.R_celln 0 HO_9.out ((ji14) : Int) (of_eq_true p21) (of_eq_true q21))); (try (have HP25 := Kd.R_putg HO_9.out ((ji14) : Int) (Int.tmod (IntKind.u64.wrap ((IntKind.u64.wrap ((rd x9_2 (ji14)) + (IntKind.u64.wrap ((rd t550 x10_1) * (rd t553 x12_2))))) + x11_2)) 65536))))); refine store_event (t := 37) (p := 65) (v := ?vo_w26) (w1 := (wr.setCell ⟨go21, ((ji14) : Int).toNat, none⟩ (.int .u64 (Int.tmod (IntKind.u64.wrap ((IntKind.u64.wrap ((rd x9_2 (ji14)) + (IntKind.u64.wrap ((rd t550 x10_1) * (rd t553 x12_2))))) + x11_2)) 65536)))) ?hg ?ho ?hn ?hr ?_; (case ho => rfl); (case hg => rfl); (case hn => rfl); (case hr => first | (go_simp; done) | (go_simp; rfl)); intro w26 hw; have hg : wr.grownBy w26 (some go21) := (by rw [hw]; exact HP25.2); have hp_ : Kd.R (Kd.int .u64) 37 w26 w.heap.size (fun k_ => some k_ ≠ (.slice (some ad563) t550.length co23 : Value).ownBlock ∧ some k_ ≠ (.slice (some ad564) t553.length co24 : Value).ownBlock) (.slice (some ⟨go21, 0, none⟩) x9_2.length co22) y565 := (by rw [hw, Ny565.out]; exact HP25.1); clear HP25; have n0_ := Aside0.mk (Kd.R_after (v := (.slice (some ⟨go21, 0, none⟩) x9_2.length co22)) (v1 := (.slice (some ⟨go21, 0, none⟩) x9_2.length co22)) (ok := (fun k_ => some k_ ≠ (.slice (some ad564) t553.length co24 : Value).ownBlock)) (RL HO_7) hg (.inl rfl)); have n1_ := Aside0.mk (Kd.R_after (v := (.slice (some ⟨go21, 0, none⟩) x9_2.length co22)) (v1 := (.slice (some ⟨go21, 0, none⟩) x9_2.length co22)) (ok := (fun k_ => some k_ ≠ (.slice (some ad563) t550.length co23 : Value).ownBlock)) (RL HO_8) hg (.inl rfl)); have n2_ := Aside0.mk (hp_); have n3_ := Aside0.mk ((by rw [hw]; exact below_set (HB.out) GB21.out : Below w.heap.size w w26)); clear HO_7; clear HO_8; clear HO_9; clear HB; have HO_7 := n0_; have HO_8 := n1_; have HO_9 := n2_; have HB := n3_; clear n0_ n1_ n2_ n3_; clear hg hw hp_)))
              go_roundg k2
              case measure => have := HK1.out; have := HK2.out; omega
              case rel => exact ⟨(y565), (IntKind.u64.wrap (Int.tdiv (IntKind.u64.wrap ((IntKind.u64.wrap ((rd x9_2 (ji14)) + (IntKind.u64.wrap ((rd t550 x10_1) * (rd t553 x12_2))))) + x11_2)) 65536)), (wrap64 (x12_2 + 1)), (by first | rfl | (simp; done) | (simp only [← hji14] <;> (first | rfl | simp)) | (simp [*]; done)), (by first | rfl | (simp; done) | (simp [*]; done) | (simp; exact isEmpty_bne _)), H', ⟨by have := HK1.out; have := HK2.out; omega⟩, ⟨by (with_reducible repeat (first | apply Kd.R_alloc | apply Kd.R_drewN | apply Kd.R_drew)); exact HO_7.out⟩, ⟨by (with_reducible repeat (first | apply Kd.R_alloc | apply Kd.R_drewN | apply Kd.R_drew)); exact HO_8.out⟩, ⟨by (with_reducible repeat (first | apply Kd.R_alloc | apply Kd.R_drewN | apply Kd.R_drew)); exact HO_9.out⟩, ⟨BL⟩⟩
            · rw [if_neg c13] at H
              have c13b0 : decide (x12_2 < (wrap64 (2 * (l1.length : Int)))) = false := decide_eq_false c13
              clear c13
              obtain ⟨ji27, hji27⟩ := let_j (wrap64 (x10_1 + (wrap64 (2 * (l1.length : Int)))))
              (first | rw [hji27] at H | simp only [hji27] at H ⊢)
              have hji27w : (IntKind.i64.wrap (x10_1 + (wrap64 (2 * (l1.length : Int))))) = ji27 := (i64_w _).trans hji27
              obtain ⟨c28, H⟩ := ite_p H
              have c28b0 : decide (0 ≤ (ji27)) = true := decide_eq_true c28
              clear c28
              obtain ⟨c29, H⟩ := ite_p H
              have c29b0 : decide ((ji27) < (x9_2.length : Int)) = true := decide_eq_true c29
              clear c29
              obtain ⟨y567, Ny567⟩ := let_p (x9_2.set ((ji27) : Int).toNat (IntKind.u64.wrap ((rd x9_2 (ji27)) + x11_2)) : List Int)
              (first | rw [← Ny567.out] at H | simp only [← Ny567.out] at H)
              have H' := Aside0.mk H
              clear H
              obtain ⟨Ao31, co31, eo31⟩ := Kd.R_slice HO_9.out
              subst eo31
              have p566 : 0 ≤ ((ji27) : Int) := DA
              have q566 : (ji27) < (x9_2.length : Int) := DA
              obtain ⟨ad566, e566, hx566_0⟩ := Kd.at_int (Kd.R_reads' HO_9.out).2.2 (ji27) p566 q566
              cases e566
              replace p566 := eq_true p566
              replace q566 := eq_true q566
              have p30 : 0 ≤ ((ji27) : Int) := DA
              have q30 : ((ji27) : Int) < ((x9_2.length : Int) : Int) := DA
              obtain ⟨go30, co30, eo30, gb30, gl30, cl30, HG30⟩ := Kd.R_form HO_9.out (by omega)
              (first | cases eo30 | (injection eo30 with ea_ en_ ec_; (first | subst ea_ | (injection ea_ with ea_; subst ea_)); subst ec_; clear en_))
              have GB30 := Aside0.mk gb30
              have GG30 := Aside0.mk HG30
              clear gb30 gl30 HG30
              (first | simp only [add_plain] at hx566_0 | skip)
              obtain ⟨hx30_0, hf30_0⟩ := Kd.R_celln 0 HO_9.out ((ji27) : Int) p30 q30
              replace p30 := eq_true p30
              replace q30 := eq_true q30
              have HP32 := Kd.R_putg HO_9.out ((ji27) : Int) (IntKind.u64.wrap ((rd x9_2 (ji27)) + x11_2))
              go_wp2_with (first | ((with_reducible refine gate_store (t := 37) (p := 76) rfl ?_); (try (rw [drewN_self wr]; generalize hq_ : World.drewN wr _ = wr; have n0_ := Aside0.mk (Kd.R_at hq_ HO_7.out); have n1_ := Aside0.mk (Kd.R_at hq_ HO_8.out); have n2_ := Aside0.mk (Kd.R_at hq_ HO_9.out); have n3_ := Aside0.mk (below_at hq_ HB.out); clear hq_ HO_7 HO_8 HO_9 HB; have HO_7 := n0_; have HO_8 := n1_; have HO_9 := n2_; have HB := n3_; clear n0_ n1_ n2_ n3_; (try (obtain ⟨hx30_0, hf30_0⟩ := Kd.R_celln 0 HO_9.out ((ji27) : Int) (of_eq_true p30) (of_eq_true q30))); (try (have HP32 := Kd.R_putg HO_9.out ((ji27) : Int) (IntKind.u64.wrap ((rd x9_2 (ji27)) + x11_2)))))); refine store_event (t := 37) (p := 76) (v := ?vo_w33) (w1 := (wr.setCell ⟨go30, ((ji27) : Int).toNat, none⟩ (.int .u64 (IntKind.u64.wrap ((rd x9_2 (ji27)) + x11_2))))) ?hg ?ho ?hn ?hr ?_; (case ho => rfl); (case hg => rfl); (case hn => rfl); (case hr => first | (go_simp; done) | (go_simp; rfl)); intro w33 hw; have hg : wr.grownBy w33 (some go30) := (by rw [hw]; exact HP32.2); have hp_ : Kd.R (Kd.int .u64) 37 w33 w.heap.size (fun k_ => some k_ ≠ (v551 : Value).ownBlock ∧ some k_ ≠ (v554 : Value).ownBlock) (.slice (some ⟨go30, 0, none⟩) x9_2.length co31) y567 := (by rw [hw, Ny567.out]; exact HP32.1); clear HP32; have n0_ := Aside0.mk (Kd.R_after (v := (.slice (some ⟨go30, 0, none⟩) x9_2.length co31)) (v1 := (.slice (some ⟨go30, 0, none⟩) x9_2.length co31)) (ok := (fun k_ => some k_ ≠ (v554 : Value).ownBlock)) (RL HO_7) hg (.inl rfl)); have n1_ := Aside0.mk (Kd.R_after (v := (.slice (some ⟨go30, 0, none⟩) x9_2.length co31)) (v1 := (.slice (some ⟨go30, 0, none⟩) x9_2.length co31)) (ok := (fun k_ => some k_ ≠ (v551 : Value).ownBlock)) (RL HO_8) hg (.inl rfl)); have n2_ := Aside0.mk (hp_); have n3_ := Aside0.mk ((by rw [hw]; exact below_set (HB.out) GB30.out : Below w.heap.size w w33)); clear HO_7; clear HO_8; clear HO_9; clear HB; have HO_7 := n0_; have HO_8 := n1_; have HO_9 := n2_; have HB := n3_; clear n0_ n1_ n2_ n3_; clear hg hw hp_))
              repeat (go_quiet (first | ((with_reducible refine gate_store (t := 37) (p := 76) rfl ?_); (try (rw [drewN_self wr]; generalize hq_ : World.drewN wr _ = wr; have n0_ := Aside0.mk (Kd.R_at hq_ HO_7.out); have n1_ := Aside0.mk (Kd.R_at hq_ HO_8.out); have n2_ := Aside0.mk (Kd.R_at hq_ HO_9.out); have n3_ := Aside0.mk (below_at hq_ HB.out); clear hq_ HO_7 HO_8 HO_9 HB; have HO_7 := n0_; have HO_8 := n1_; have HO_9 := n2_; have HB := n3_; clear n0_ n1_ n2_ n3_; (try (obtain ⟨hx30_0, hf30_0⟩ := Kd.R_celln 0 HO_9.out ((ji27) : Int) (of_eq_true p30) (of_eq_true q30))); (try (have HP32 := Kd.R_putg HO_9.out ((ji27) : Int) (IntKind.u64.wrap ((rd x9_2 (ji27)) + x11_2)))))); refine store_event (t := 37) (p := 76) (v := ?vo_w33) (w1 := (wr.setCell ⟨go30, ((ji27) : Int).toNat, none⟩ (.int .u64 (IntKind.u64.wrap ((rd x9_2 (ji27)) + x11_2))))) ?hg ?ho ?hn ?hr ?_; (case ho => rfl); (case hg => rfl); (case hn => rfl); (case hr => first | (go_simp; done) | (go_simp; rfl)); intro w33 hw; have hg : wr.grownBy w33 (some go30) := (by rw [hw]; exact HP32.2); have hp_ : Kd.R (Kd.int .u64) 37 w33 w.heap.size (fun k_ => some k_ ≠ (v551 : Value).ownBlock ∧ some k_ ≠ (v554 : Value).ownBlock) (.slice (some ⟨go30, 0, none⟩) x9_2.length co31) y567 := (by rw [hw, Ny567.out]; exact HP32.1); clear HP32; have n0_ := Aside0.mk (Kd.R_after (v := (.slice (some ⟨go30, 0, none⟩) x9_2.length co31)) (v1 := (.slice (some ⟨go30, 0, none⟩) x9_2.length co31)) (ok := (fun k_ => some k_ ≠ (v554 : Value).ownBlock)) (RL HO_7) hg (.inl rfl)); have n1_ := Aside0.mk (Kd.R_after (v := (.slice (some ⟨go30, 0, none⟩) x9_2.length co31)) (v1 := (.slice (some ⟨go30, 0, none⟩) x9_2.length co31)) (ok := (fun k_ => some k_ ≠ (v551 : Value).ownBlock)) (RL HO_8) hg (.inl rfl)); have n2_ := Aside0.mk (hp_); have n3_ := Aside0.mk ((by rw [hw]; exact below_set (HB.out) GB30.out : Below w.heap.size w w33)); clear HO_7; clear HO_8; clear HO_9; clear HB; have HO_7 := n0_; have HO_8 := n1_; have HO_9 := n2_; have HB := n3_; clear n0_ n1_ n2_ n3_; clear hg hw hp_)); try go_wp2_with (first | ((with_reducible refine gate_store (t := 37) (p := 76) rfl ?_); (try (rw [drewN_self wr]; generalize hq_ : World.drewN wr _ = wr; have n0_ := Aside0.mk (Kd.R_at hq_ HO_7.out); have n1_ := Aside0.mk (Kd.R_at hq_ HO_8.out); have n2_ := Aside0.mk (Kd.R_at hq_ HO_9.out); have n3_ := Aside0.mk (below_at hq_ HB.out); clear hq_ HO_7 HO_8 HO_9 HB; have HO_7 := n0_; have HO_8 := n1_; have HO_9 := n2_; have HB := n3_; clear n0_ n1_ n2_ n3_; (try (obtain ⟨hx30_0, hf30_0⟩ := Kd.R_celln 0 HO_9.out ((ji27) : Int) (of_eq_true p30) (of_eq_true q30))); (try (have HP32 := Kd.R_putg HO_9.out ((ji27) : Int) (IntKind.u64.wrap ((rd x9_2 (ji27)) + x11_2)))))); refine store_event (t := 37) (p := 76) (v := ?vo_w33) (w1 := (wr.setCell ⟨go30, ((ji27) : Int).toNat, none⟩ (.int .u64 (IntKind.u64.wrap ((rd x9_2 (ji27)) + x11_2))))) ?hg ?ho ?hn ?hr ?_; (case ho => rfl); (case hg => rfl); (case hn => rfl); (case hr => first | (go_simp; done) | (go_simp; rfl)); intro w33 hw; have hg : wr.grownBy w33 (some go30) := (by rw [hw]; exact HP32.2); have hp_ : Kd.R (Kd.int .u64) 37 w33 w.heap.size (fun k_ => some k_ ≠ (v551 : Value).ownBlock ∧ some k_ ≠ (v554 : Value).ownBlock) (.slice (some ⟨go30, 0, none⟩) x9_2.length co31) y567 := (by rw [hw, Ny567.out]; exact HP32.1); clear HP32; have n0_ := Aside0.mk (Kd.R_after (v := (.slice (some ⟨go30, 0, none⟩) x9_2.length co31)) (v1 := (.slice (some ⟨go30, 0, none⟩) x9_2.length co31)) (ok := (fun k_ => some k_ ≠ (v554 : Value).ownBlock)) (RL HO_7) hg (.inl rfl)); have n1_ := Aside0.mk (Kd.R_after (v := (.slice (some ⟨go30, 0, none⟩) x9_2.length co31)) (v1 := (.slice (some ⟨go30, 0, none⟩) x9_2.length co31)) (ok := (fun k_ => some k_ ≠ (v551 : Value).ownBlock)) (RL HO_8) hg (.inl rfl)); have n2_ := Aside0.mk (hp_); have n3_ := Aside0.mk ((by rw [hw]; exact below_set (HB.out) GB30.out : Below w.heap.size w w33)); clear HO_7; clear HO_8; clear HO_9; clear HB; have HO_7 := n0_; have HO_8 := n1_; have HO_9 := n2_; have HB := n3_; clear n0_ n1_ n2_ n3_; clear hg hw hp_)))
              go_roundg k2
              case measure => have := HK1.out; have := HK2.out; omega
              case rel => exact ⟨(y567), (wrap64 (x10_1 + 1)), (by first | rfl | (simp; done) | (simp [*]; done) | (simp; exact isEmpty_bne _)), H', ⟨by have := HK1.out; have := HK2.out; omega⟩, ⟨by (with_reducible repeat (first | apply Kd.R_alloc | apply Kd.R_drewN | apply Kd.R_drew)); exact HO_7.out⟩, ⟨by (with_reducible repeat (first | apply Kd.R_alloc | apply Kd.R_drewN | apply Kd.R_drew)); exact HO_8.out⟩, ⟨by (with_reducible repeat (first | apply Kd.R_alloc | apply Kd.R_drewN | apply Kd.R_drew)); exact HO_9.out⟩, ⟨BL⟩⟩
      · rw [if_neg c12] at H
        have c12b0 : decide (x10_1 < (wrap64 (2 * (l0.length : Int)))) = false := decide_eq_false c12
        clear c12
        obtain ⟨t559, A34, H⟩ := bind_p H
        obtain rfl := Option.some.inj H
        obtain ⟨Ao35, co35, eo35⟩ := Kd.R_slice HO_9.out
        subst eo35
        go_wp2_with (first | (go_at_call 48; (with_reducible refine (samphireref02_Whole.calls k1 _ _ x9_1 t559 _ ?side1 ?side2 A34.out).mono ?_); (case side1 => exact RR HO_9); (case side2 => exact (Kd.R_reads' HO_9.out).2.1); rintro e w36 ⟨v560, rfl, ho0, hb⟩; have n0_ := Aside0.mk (Kd.R_below (RL HO_7) hb); have n1_ := Aside0.mk (Kd.R_below (RL HO_8) hb); have n2_ := Aside0.mk (Kd.R_below (RL HO_9) hb); have n3_ := Aside0.mk (Kd.R_lower ho0 (below_size BL)); have n4_ := Aside0.mk (below_step BL hb); clear HO_7; clear HO_8; clear HO_9; clear HB; have HO_7 := n0_; have HO_8 := n1_; have HO_9 := n2_; have HO561 := n3_; have HB := n4_; clear n0_ n1_ n2_ n3_ n4_; (try clear hb); (try clear hb2); (try clear hk); (try clear hi); (try clear ho0)))
        repeat (go_quiet (first | (go_at_call 48; (with_reducible refine (samphireref02_Whole.calls k1 _ _ x9_1 t559 _ ?side1 ?side2 A34.out).mono ?_); (case side1 => exact RR HO_9); (case side2 => exact (Kd.R_reads' HO_9.out).2.1); rintro e w36 ⟨v560, rfl, ho0, hb⟩; have n0_ := Aside0.mk (Kd.R_below (RL HO_7) hb); have n1_ := Aside0.mk (Kd.R_below (RL HO_8) hb); have n2_ := Aside0.mk (Kd.R_below (RL HO_9) hb); have n3_ := Aside0.mk (Kd.R_lower ho0 (below_size BL)); have n4_ := Aside0.mk (below_step BL hb); clear HO_7; clear HO_8; clear HO_9; clear HB; have HO_7 := n0_; have HO_8 := n1_; have HO_9 := n2_; have HO561 := n3_; have HB := n4_; clear n0_ n1_ n2_ n3_ n4_; (try clear hb); (try clear hb2); (try clear hk); (try clear hi); (try clear ho0))); try go_wp2_with (first | (go_at_call 48; (with_reducible refine (samphireref02_Whole.calls k1 _ _ x9_1 t559 _ ?side1 ?side2 A34.out).mono ?_); (case side1 => exact RR HO_9); (case side2 => exact (Kd.R_reads' HO_9.out).2.1); rintro e w36 ⟨v560, rfl, ho0, hb⟩; have n0_ := Aside0.mk (Kd.R_below (RL HO_7) hb); have n1_ := Aside0.mk (Kd.R_below (RL HO_8) hb); have n2_ := Aside0.mk (Kd.R_below (RL HO_9) hb); have n3_ := Aside0.mk (Kd.R_lower ho0 (below_size BL)); have n4_ := Aside0.mk (below_step BL hb); clear HO_7; clear HO_8; clear HO_9; clear HB; have HO_7 := n0_; have HO_8 := n1_; have HO_9 := n2_; have HO561 := n3_; have HB := n4_; clear n0_ n1_ n2_ n3_ n4_; (try clear hb); (try clear hb2); (try clear hk); (try clear hi); (try clear ho0))))
        go_ret
        exact ⟨_, by first | rfl | (simp [errW_none, errW_some] <;> rfl) | (simp only [← hji5]; first | rfl | (simp [errW_none, errW_some] <;> rfl)) | (simp [*, errW_none, errW_some] <;> rfl), by (with_reducible repeat (first | apply Kd.R_alloc | apply Kd.R_drewN | apply Kd.R_drew)); exact HO561.out, BL⟩

end Go.Proofs.YtdgbeejhccogpaaDoor.P
