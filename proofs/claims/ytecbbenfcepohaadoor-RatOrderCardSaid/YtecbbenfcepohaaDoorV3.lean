-- Printed by this session's own program out of the translation.
import Derived.Test.YtecbbenfcepohaaDoorV2
namespace Go.Proofs.YtecbbenfcepohaaDoor.V
open Go.RowKit Go.Proofs.YtecbbenfcepohaaDoor.K Go.Proofs.YtecbbenfcepohaaDoorW.PrintWords Go.Proofs.YtecbbenfcepohaaDoorW.PrintLast Go.Proofs.YtecbbenfcepohaaDoorW.PrintMore Go.Proofs.YtecbbenfcepohaaDoor.RW
set_option linter.unusedVariables false
set_option linter.unusedSimpArgs false
set_option maxHeartbeats 8000000 in
set_option maxRecDepth 100000 in
theorem samphireref03_Small.sc (A0_0 : Option Addr) (c0_0 : Nat) (l0_0 : List Int) (A0_1 : Option Addr) (c0_1 : Nat) (l0_1 : List Int) (r0 : Bool) (w : World) (h0_0 : Row w A0_0 c0_0 l0_0) (h0_1 : Row w A0_1 c0_1 l0_1) (h : Aside0 (samphireref03_Small.f l0_0 l0_1 = some r0)) :
    Calls Tryd.prog 27 #[.agg #[.slice A0_0 l0_0.length c0_0, .slice A0_1 l0_1.length c0_1]] w fun e w' => e = .returned (.bool r0) ∧ Below w.heap.size w w' := by
  have S := ((St.start w).add h0_1).add h0_0
  have H := h.out
  unfold samphireref03_Small.f at H
  clear h h0_0 h0_1
  go_enter Tryd.func27, Tryd.ntmps27
  all_goals go_wp2_with (first
    | ((with_reducible refine gate_d (N := 1) trivial rfl ?_); (try clear q0); (try clear q1); refine ev_box 1 rfl S rfl #[.slice A0_0 l0_0.length c0_0, .slice A0_1 l0_1.length c0_1] 27 ?hr rfl ?_; (case hr => first | (go_simp; done) | (go_simp; rfl)); intro g1 w1_ S; have q0 := S.cell 0 rfl 0 rfl; have q1 := S.cell 0 rfl 1 rfl; revert H; refine w_ler 70 rfl (fun d2t d2t' => fun H => ?_) (fun d2f d2f' => fun H => ?_)))
  all_goals first
    | (have _p := d2t; obtain rfl := Option.some.inj H; go_ret; exact ⟨rfl, S.below⟩)
    | (have _p := d2f; obtain rfl := Option.some.inj H; go_ret; exact ⟨rfl, S.below⟩)
set_option maxHeartbeats 8000000 in
set_option maxRecDepth 100000 in
theorem samphireref03_Right.sc (k : Nat) (A0_0 : Option Addr) (c0_0 : Nat) (l0_0 : List Int) (A0_1 : Option Addr) (c0_1 : Nat) (l0_1 : List Int) (r0 : Bool) (w : World) (h0_0 : Row w A0_0 c0_0 l0_0) (h0_1 : Row w A0_1 c0_1 l0_1) (h : Aside0 (samphireref03_Right.f k l0_0 l0_1 = some r0)) :
    Calls Tryd.prog 28 #[.agg #[.slice A0_0 l0_0.length c0_0, .slice A0_1 l0_1.length c0_1]] w fun e w' => e = .returned (.bool r0) ∧ Below w.heap.size w w' := by
  have S := ((St.start w).add h0_1).add h0_0
  have H := h.out
  unfold samphireref03_Right.f at H
  clear h h0_0 h0_1
  go_enter Tryd.func28, Tryd.ntmps28
  all_goals go_wp2_with (first
    | ((with_reducible refine gate_d (N := 1) trivial rfl ?_); (try clear q0); (try clear q1); refine ev_box 1 rfl S rfl #[.slice A0_0 l0_0.length c0_0, .slice A0_1 l0_1.length c0_1] 27 ?hr rfl ?_; (case hr => first | (go_simp; done) | (go_simp; rfl)); intro g1 w1_ S; have q0 := S.cell 0 rfl 0 rfl)
    | ((with_reducible refine gate_d (N := 6) trivial rfl ?_); refine goesL_ (some 6) rfl rfl Tryd.func15 (by kernel_rfl) rfl #[.slice A0_0 l0_0.length c0_0] rfl EQ ?_; (try clear q0); (try clear q1); obtain ⟨t2, H3, H⟩ := bind_p H; refine (samphireref02_Right.sc _ _ l0_0 t2 _ (S.at 0 rfl) H3).mono ?_; rintro _ w1_ ⟨rfl, hb⟩; refine ⟨_, rfl, ?_⟩; replace S := S.step hb; clear  hb H3; have q0 := S.cell 0 rfl 1 rfl; revert H; refine w_b (fun d4t d4t' => fun H => ?_) (fun d4f d4f' => fun H => ?_))
    | ((with_reducible refine gate_d (N := 11) d4t rfl ?_); (try (refine gate_guard (by rfl) ?_; dsimp only)); refine goesL_ (some 11) rfl rfl Tryd.func15 (by kernel_rfl) rfl #[.slice A0_1 l0_1.length c0_1] rfl EQ ?_; (try clear q0); (try clear q1); obtain ⟨t5, H6, H⟩ := bind_p H; refine (samphireref02_Right.sc _ _ l0_1 t5 _ (S.at 1 rfl) H6).mono ?_; rintro _ w1_ ⟨rfl, hb⟩; refine ⟨_, rfl, ?_⟩; replace S := S.step hb; clear  hb H6; have q0 := S.cell 0 rfl 1 rfl; have q1 := S.cell 0 rfl 0 rfl; revert H; refine w_b (fun d7t d7t' => w_len0 (fun d8t d8t' d8t_ => fun H => ?_) (fun d8f d8f' d8f_ => fun H => ?_)) (fun d7f d7f' => fun H => ?_))
    | ((with_reducible refine gate_d (N := 24) d8f rfl ?_); refine goesL_ (some 24) rfl rfl Tryd.func38 (by kernel_rfl) rfl #[.slice A0_0 l0_0.length c0_0, .slice A0_1 l0_1.length c0_1] rfl EQ ?_; (try clear q0); (try clear q1); obtain ⟨t9, H10, H⟩ := bind_p H; refine (samphireref02_Gcd.sc k _ _ l0_0 _ _ l0_1 t9 _ (S.at 0 rfl) (S.at 1 rfl) H10).mono ?_; rintro _ w1_ ⟨B9, C9, rfl, ut9, hb⟩; refine ⟨_, rfl, ?_⟩; replace S := (S.step hb).add ut9; clear ut9 hb H10; revert H; refine w_len1 (fun d11t d11t' => w_ltl 0 rfl (fun d12t d12t' => fun H => ?_) (fun d12f d12f' => fun H => (nomatch H))) (fun d11f d11f' => fun H => ?_); (try (obtain ⟨ad13, e_, xad13⟩ := Kd.at_int (S.at 0 rfl).rd 0 (by decide) (of_decide_eq_true d12t); cases e_; have iad13 : (0 < t9.length) = True := eq_true (of_decide_eq_true d12t'); try rw [show ((0 : Int)).toNat = 0 from rfl] at xad13; try rw [Addr.add_zero'] at xad13))))
  all_goals first
    | (have _p := d8t; obtain rfl := Option.some.inj H; go_ret; exact ⟨rfl, S.below⟩)
    | (have _p := d12t; obtain rfl := Option.some.inj H; go_ret; exact ⟨rfl, S.below⟩)
    | (have _p := d11f; obtain rfl := Option.some.inj H; go_ret; exact ⟨rfl, S.below⟩)
    | (have _p := d7f; obtain rfl := Option.some.inj H; go_ret; exact ⟨rfl, S.below⟩)
    | (have _p := d4f; obtain rfl := Option.some.inj H; go_ret; exact ⟨rfl, S.below⟩)
set_option maxHeartbeats 8000000 in
set_option maxRecDepth 100000 in
theorem samphireref03_Reduce.sc (k : Nat) (A0 : Option Addr) (c0 : Nat) (l0 : List Int) (A1 : Option Addr) (c1 : Nat) (l1 : List Int) (r0 : List Int) (r1 : List Int) (w : World) (h0 : Row w A0 c0 l0) (h1 : Row w A1 c1 l1) (h : Aside0 (samphireref03_Reduce.f k l0 l1 = some (r0, r1))) :
    Calls Tryd.prog 17 #[.slice A0 l0.length c0, .slice A1 l1.length c1] w fun e w' => ∃ x0 y0 x1 y1, e = .returned (.agg #[.slice x0 r0.length y0, .slice x1 r1.length y1]) ∧ Row w' x0 y0 r0 ∧ Row w' x1 y1 r1 ∧ Below w.heap.size w w' := by
  have S := ((St.start w).add h1).add h0
  have H := h.out
  unfold samphireref03_Reduce.f at H
  clear h h0 h1
  go_enter Tryd.func17, Tryd.ntmps17
  all_goals go_wp2_with (first
    | ((with_reducible refine gate_d (N := 4) trivial rfl ?_); refine ev_box 4 rfl S rfl #[.slice none 0 0, .slice none 0 0] 27 ?hr rfl ?_; (case hr => first | (go_simp; done) | (go_simp; rfl)); intro g1 w1_ S)
    | ((with_reducible refine gate_d (N := 12) trivial rfl ?_); refine goesL_ (some 12) rfl rfl Tryd.func38 (by kernel_rfl) rfl #[.slice A0 l0.length c0, .slice A1 l1.length c1] rfl EQ ?_; obtain ⟨t2, H3, H⟩ := bind_p H; refine (samphireref02_Gcd.sc k _ _ l0 _ _ l1 t2 _ (S.at 0 rfl) (S.at 1 rfl) H3).mono ?_; rintro _ w1_ ⟨B2, C2, rfl, ut2, hb⟩; refine ⟨_, rfl, ?_⟩; replace S := (S.step hb).add ut2; clear ut2 hb H3)
    | ((with_reducible refine gate_d (N := 16) trivial rfl ?_); refine goesL_ (some 16) rfl rfl Tryd.func39 (by kernel_rfl) rfl #[.slice A0 l0.length c0, .slice B2 t2.length C2] rfl EQ ?_; obtain ⟨⟨t4, t5⟩, H6, H⟩ := bind_p H; dsimp only at H; refine (samphireref02_Div.sc k _ _ l0 _ _ t2 t4 t5 _ (S.at 1 rfl) (S.at 0 rfl) H6).mono ?_; rintro _ w1_ ⟨B4, C4, B5, C5, rfl, ut4, ut5, hb⟩; refine ⟨_, rfl, ?_⟩; replace S := ((S.step hb).add ut4).add ut5; clear ut4 ut5 hb H6)
    | ((with_reducible refine gate_d (N := 22) trivial rfl ?_); refine goesL_ (some 22) rfl rfl Tryd.func39 (by kernel_rfl) rfl #[.slice A1 l1.length c1, .slice B2 t2.length C2] rfl EQ ?_; obtain ⟨⟨t7, t8⟩, H9, H⟩ := bind_p H; dsimp only at H; refine (samphireref02_Div.sc k _ _ l1 _ _ t2 t7 t8 _ (S.at 4 rfl) (S.at 2 rfl) H9).mono ?_; rintro _ w1_ ⟨B7, C7, B8, C8, rfl, ut7, ut8, hb⟩; refine ⟨_, rfl, ?_⟩; replace S := ((S.step hb).add ut7).add ut8; clear ut7 ut8 hb H9)
    | ((with_reducible refine gate_s (t := 27) (q := 4) trivial rfl ?_); refine ev_put2 rfl S rfl rfl 0 rfl 0 (.slice B4 t4.length C4) (.slice B7 t7.length C7) rfl rfl rfl rfl ?hr ?_; (case hr => have z0 := S.cell 0 rfl 0 rfl; have y0 := S.frozen 0 rfl 0; have z1 := S.cell 0 rfl 1 rfl; have y1 := S.frozen 0 rfl 1; first | (go_simp; done) | (go_simp; rfl)); intro w1_ S))
  all_goals first
    | (have _p := trivial; simp only [Option.some.injEq, Prod.mk.injEq] at H; obtain ⟨rfl, rfl⟩ := H; ((try simp only [Exit.inBlock, Exit.then]); refine bodyPost_ret (results_cell_row rfl _ _ g1 27 _ (0, 0) _ rfl (S.blk 0 rfl) Tryd.underlying27 rfl (by kernel_rfl)) rfl ?_); exact ⟨_, _, _, _, rfl, S.at 3 rfl, S.at 1 rfl, S.below⟩)
set_option maxHeartbeats 8000000 in
set_option maxRecDepth 100000 in
theorem samphireref03_big.sc (A0 : Option Addr) (c0 : Nat) (l0 : List Int) (A1 : Option Addr) (c1 : Nat) (l1 : List Int) (A2 : Option Addr) (c2 : Nat) (l2 : List Int) (r0 : Bool) (w : World) (h0 : Row w A0 c0 l0) (h1 : Row w A1 c1 l1) (h2 : Row w A2 c2 l2) (h : Aside0 (samphireref03_big.f l0 l1 l2 = some r0)) :
    Calls Tryd.prog 50 #[.slice A0 l0.length c0, .slice A1 l1.length c1, .slice A2 l2.length c2] w fun e w' => e = .returned (.bool r0) ∧ Below w.heap.size w w' := by
  have S := (((St.start w).add h2).add h1).add h0
  have H := h.out
  unfold samphireref03_big.f at H
  clear h h0 h1 h2
  revert H
  refine w_ltl 64 rfl (fun d1t d1t' => fun H => ?_) (fun d1f d1f' => w_ltl 64 rfl (fun d2t d2t' => fun H => ?_) (fun d2f d2f' => fun H => ?_))
  all_goals (go_enter Tryd.func50, Tryd.ntmps50)
  all_goals go_wp2
  all_goals first
    | (have _p := d1t; obtain rfl := Option.some.inj H; go_ret; exact ⟨rfl, S.below⟩)
    | (have _p := d2t; obtain rfl := Option.some.inj H; go_ret; exact ⟨rfl, S.below⟩)
    | (have _p := d2f; obtain rfl := Option.some.inj H; go_ret; exact ⟨rfl, S.below⟩)
end Go.Proofs.YtecbbenfcepohaaDoor.V
