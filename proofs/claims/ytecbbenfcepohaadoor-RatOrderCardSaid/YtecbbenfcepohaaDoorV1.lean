-- Printed by this session's own program out of the translation.
import Derived.Test.YtecbbenfcepohaaDoorVL
namespace Go.Proofs.YtecbbenfcepohaaDoor.V
open Go.RowKit Go.Proofs.YtecbbenfcepohaaDoor.K Go.Proofs.YtecbbenfcepohaaDoorW.PrintWords Go.Proofs.YtecbbenfcepohaaDoorW.PrintLast Go.Proofs.YtecbbenfcepohaaDoorW.PrintMore Go.Proofs.YtecbbenfcepohaaDoor.RW
set_option linter.unusedVariables false
set_option linter.unusedSimpArgs false
set_option maxHeartbeats 8000000 in
set_option maxRecDepth 100000 in
theorem rat_one.sc (k : Nat) (r0 : List Int) (w : World) (h : Aside0 (rat_one.f k = some r0)) :
    Calls Tryd.prog 36 #[] w fun e w' => ∃ x0 y0, e = .returned (.slice x0 r0.length y0) ∧ Row w' x0 y0 r0 ∧ Below w.heap.size w w' := by
  have S := St.start w
  have H := h.out
  unfold rat_one.f at H
  clear h
  go_enter Tryd.func36, Tryd.ntmps36
  all_goals go_wp2_with (first
    | ((with_reducible refine gate_d (N := 1) trivial rfl ?_); refine goesL_ (some 1) rfl rfl Tryd.func35 (by kernel_rfl) rfl #[.int .u64 1] rfl EQ ?_; obtain ⟨t1, H2, H⟩ := bind_p H; refine (nat_Of.sc k 1 t1 _ H2).mono ?_; rintro _ w1_ ⟨B1, C1, rfl, ut1, hb⟩; refine ⟨_, rfl, ?_⟩; replace S := (S.step hb).add ut1; clear ut1 hb H2))
  all_goals first
    | (have _p := trivial; obtain rfl := Option.some.inj H; go_ret; exact ⟨_, _, rfl, S.at 0 rfl, S.below⟩)
set_option maxHeartbeats 8000000 in
set_option maxRecDepth 100000 in
theorem rat_reduce.sc (k : Nat) (A0 : Option Addr) (c0 : Nat) (l0 : List Int) (A1 : Option Addr) (c1 : Nat) (l1 : List Int) (r0 : List Int) (r1 : List Int) (w : World) (h0 : Row w A0 c0 l0) (h1 : Row w A1 c1 l1) (h : Aside0 (rat_reduce.f k l0 l1 = some (r0, r1))) :
    Calls Tryd.prog 34 #[.slice A0 l0.length c0, .slice A1 l1.length c1] w fun e w' => ∃ x0 y0 x1 y1, e = .returned (.agg #[.slice x0 r0.length y0, .slice x1 r1.length y1]) ∧ Row w' x0 y0 r0 ∧ Row w' x1 y1 r1 ∧ Below w.heap.size w w' := by
  have S := ((St.start w).add h1).add h0
  have H := h.out
  unfold rat_reduce.f at H
  clear h h0 h1
  go_enter Tryd.func34, Tryd.ntmps34
  all_goals go_wp2_with (first
    | ((with_reducible refine gate_d (N := 4) trivial rfl ?_); refine ev_box 4 rfl S rfl #[.slice none 0 0, .slice none 0 0] 27 ?hr rfl ?_; (case hr => first | (go_simp; done) | (go_simp; rfl)); intro g1 w1_ S)
    | ((with_reducible refine gate_d (N := 16) trivial rfl ?_); refine goesL_ (some 16) rfl rfl Tryd.func40 (by kernel_rfl) rfl #[.slice A0 l0.length c0, .slice A1 l1.length c1] rfl EQ ?_; obtain ⟨⟨t2, t3⟩, H4, H⟩ := bind_p H; dsimp only at H; refine (nat_Gcd.sc k _ _ l0 _ _ l1 t2 t3 _ (S.at 0 rfl) (S.at 1 rfl) H4).mono ?_; rintro _ w1_ ⟨B2, C2, rfl, ut2, hb⟩; refine ⟨_, rfl, ?_⟩; replace S := (S.step hb).add ut2; clear ut2 hb H4)
    | ((with_reducible refine gate_d (N := 22) trivial rfl ?_); refine goesL_ (some 22) rfl rfl Tryd.func55 (by kernel_rfl) rfl #[.slice A0 l0.length c0, .slice B2 t2.length C2] rfl EQ ?_; obtain ⟨⟨t5, t6, t7⟩, H8, H⟩ := bind_p H; dsimp only at H; refine (nat_Div.sc k _ _ l0 _ _ t2 t5 t6 t7 _ (S.at 1 rfl) (S.at 0 rfl) H8).mono ?_; rintro _ w1_ ⟨B5, C5, B6, C6, rfl, ut5, ut6, hb⟩; refine ⟨_, rfl, ?_⟩; replace S := ((S.step hb).add ut5).add ut6; clear ut5 ut6 hb H8)
    | ((with_reducible refine gate_d (N := 29) trivial rfl ?_); refine goesL_ (some 29) rfl rfl Tryd.func55 (by kernel_rfl) rfl #[.slice A1 l1.length c1, .slice B2 t2.length C2] rfl EQ ?_; obtain ⟨⟨t9, t10, t11⟩, H12, H⟩ := bind_p H; dsimp only at H; refine (nat_Div.sc k _ _ l1 _ _ t2 t9 t10 t11 _ (S.at 4 rfl) (S.at 2 rfl) H12).mono ?_; rintro _ w1_ ⟨B9, C9, B10, C10, rfl, ut9, ut10, hb⟩; refine ⟨_, rfl, ?_⟩; replace S := ((S.step hb).add ut9).add ut10; clear ut9 ut10 hb H12)
    | ((with_reducible refine gate_s (t := 27) (q := 4) trivial rfl ?_); refine ev_put2 rfl S rfl rfl 0 rfl 0 (.slice B5 t5.length C5) (.slice B9 t9.length C9) rfl rfl rfl rfl ?hr ?_; (case hr => have z0 := S.cell 0 rfl 0 rfl; have y0 := S.frozen 0 rfl 0; have z1 := S.cell 0 rfl 1 rfl; have y1 := S.frozen 0 rfl 1; first | (go_simp; done) | (go_simp; rfl)); intro w1_ S))
  all_goals first
    | (have _p := trivial; simp only [Option.some.injEq, Prod.mk.injEq] at H; obtain ⟨rfl, rfl⟩ := H; ((try simp only [Exit.inBlock, Exit.then]); refine bodyPost_ret (results_cell_row rfl _ _ g1 27 _ (0, 0) _ rfl (S.blk 0 rfl) Tryd.underlying27 rfl (by kernel_rfl)) rfl ?_); exact ⟨_, _, _, _, rfl, S.at 3 rfl, S.at 1 rfl, S.below⟩)
set_option maxHeartbeats 8000000 in
set_option maxRecDepth 100000 in
theorem rat_Right.sc (k : Nat) (A0_0 : Option Addr) (c0_0 : Nat) (l0_0 : List Int) (A0_1 : Option Addr) (c0_1 : Nat) (l0_1 : List Int) (r0 : Bool) (w : World) (h0_0 : Row w A0_0 c0_0 l0_0) (h0_1 : Row w A0_1 c0_1 l0_1) (h : Aside0 (rat_Right.f k l0_0 l0_1 = some r0)) :
    Calls Tryd.prog 18 #[.agg #[.slice A0_0 l0_0.length c0_0, .slice A0_1 l0_1.length c0_1]] w fun e w' => e = .returned (.bool r0) ∧ Below w.heap.size w w' := by
  have S := ((St.start w).add h0_1).add h0_0
  have H := h.out
  unfold rat_Right.f at H
  clear h h0_0 h0_1
  go_enter Tryd.func18, Tryd.ntmps18
  all_goals go_wp2_with (first
    | ((with_reducible refine gate_d (N := 1) trivial rfl ?_); (try clear q0); (try clear q1); refine ev_box 1 rfl S rfl #[.slice A0_0 l0_0.length c0_0, .slice A0_1 l0_1.length c0_1] 27 ?hr rfl ?_; (case hr => first | (go_simp; done) | (go_simp; rfl)); intro g1 w1_ S; have q0 := S.cell 0 rfl 0 rfl; have q1 := S.cell 0 rfl 1 rfl)
    | ((with_reducible refine gate_d (N := 10) trivial rfl ?_); refine goesL_ (some 10) rfl rfl Tryd.func40 (by kernel_rfl) rfl #[.slice A0_0 l0_0.length c0_0, .slice A0_1 l0_1.length c0_1] rfl EQ ?_; (try clear q0); (try clear q1); obtain ⟨⟨t2, t3⟩, H4, H⟩ := bind_p H; dsimp only at H; refine (nat_Gcd.sc k _ _ l0_0 _ _ l0_1 t2 t3 _ (S.at 0 rfl) (S.at 1 rfl) H4).mono ?_; rintro _ w1_ ⟨B2, C2, rfl, ut2, hb⟩; refine ⟨_, rfl, ?_⟩; replace S := (S.step hb).add ut2; clear ut2 hb H4; have q0 := S.cell 0 rfl 1 rfl; revert H; refine w_eq (fun d5t d5t' => w_ltl 0 rfl (fun d6t d6t' => fun H => ?_) (fun d6f d6f' => fun H => ?_)) (fun d5f d5f' => fun H => ?_))
    | ((with_reducible refine gate_d (N := 23) d6t rfl ?_); (try (refine gate_guard (by rfl) ?_; dsimp only)); refine goesL_ (some 23) rfl rfl Tryd.func36 (by kernel_rfl) rfl #[] rfl EQ ?_; (try clear q0); (try clear q1); obtain ⟨t7, H8, H⟩ := bind_p H; refine (rat_one.sc k t7 _ H8).mono ?_; rintro _ w1_ ⟨B7, C7, rfl, ut7, hb⟩; refine ⟨_, rfl, ?_⟩; replace S := (S.step hb).add ut7; clear ut7 hb H8)
    | ((with_reducible refine gate_d (N := 24) d6t rfl ?_); (try (refine gate_guard (by rfl) ?_; dsimp only)); refine goesL_ (some 24) rfl rfl Tryd.func41 (by kernel_rfl) rfl #[.slice B2 t2.length C2, .slice B7 t7.length C7] rfl EQ ?_; (try clear q0); (try clear q1); obtain ⟨t9, H10, H⟩ := bind_p H; refine (nat_Cmp.sc k _ _ t2 _ _ t7 t9 _ (S.at 1 rfl) (S.at 0 rfl) H10).mono ?_; rintro _ w1_ ⟨rfl, hb⟩; refine ⟨_, rfl, ?_⟩; replace S := S.step hb; clear  hb H10))
  all_goals first
    | (have _p := d6t; obtain rfl := Option.some.inj H; go_ret; exact ⟨rfl, S.below⟩)
    | (have _p := d6f; obtain rfl := Option.some.inj H; go_ret; exact ⟨rfl, S.below⟩)
    | (have _p := d5f; obtain rfl := Option.some.inj H; go_ret; exact ⟨rfl, S.below⟩)
set_option maxHeartbeats 8000000 in
set_option maxRecDepth 100000 in
theorem rat_Make.sc (k : Nat) (A0 : Option Addr) (c0 : Nat) (l0 : List Int) (A1 : Option Addr) (c1 : Nat) (l1 : List Int) (r0 : List Int) (r1 : List Int) (r2 : Int) (w : World) (h0 : Row w A0 c0 l0) (h1 : Row w A1 c1 l1) (h : Aside0 (rat_Make.f k l0 l1 = some (r0, r1, r2))) :
    Calls Tryd.prog 11 #[.slice A0 l0.length c0, .slice A1 l1.length c1] w fun e w' => ∃ x0 y0 x1 y1, e = .returned (.tuple #[.agg #[.slice x0 r0.length y0, .slice x1 r1.length y1], .int .i64 r2]) ∧ Row w' x0 y0 r0 ∧ Row w' x1 y1 r1 ∧ Below w.heap.size w w' := by
  have S := ((St.start w).add h1).add h0
  have H := h.out
  unfold rat_Make.f at H
  clear h h0 h1
  go_enter Tryd.func11, Tryd.ntmps11
  all_goals go_wp2_with (first
    | ((with_reducible refine gate_d (N := 4) trivial rfl ?_); refine ev_box 4 rfl S rfl #[.slice none 0 0, .slice none 0 0] 27 ?hr rfl ?_; (case hr => first | (go_simp; done) | (go_simp; rfl)); intro g1 w1_ S)
    | ((with_reducible refine gate_d (N := 8) trivial rfl ?_); refine goesL_ (some 8) rfl rfl Tryd.func33 (by kernel_rfl) rfl #[.slice A0 l0.length c0] rfl EQ ?_; obtain ⟨t2, H3, H⟩ := bind_p H; refine (nat_Right.sc _ _ l0 t2 _ (S.at 0 rfl) H3).mono ?_; rintro _ w1_ ⟨rfl, hb⟩; refine ⟨_, rfl, ?_⟩; replace S := S.step hb; clear  hb H3; revert H; refine w_b (fun d4t d4t' => fun H => ?_) (fun d4f d4f' => fun H => ?_))
    | ((with_reducible refine gate_d (N := 12) d4t rfl ?_); (try (refine gate_guard (by rfl) ?_; dsimp only)); refine goesL_ (some 12) rfl rfl Tryd.func33 (by kernel_rfl) rfl #[.slice A1 l1.length c1] rfl EQ ?_; obtain ⟨t5, H6, H⟩ := bind_p H; refine (nat_Right.sc _ _ l1 t5 _ (S.at 1 rfl) H6).mono ?_; rintro _ w1_ ⟨rfl, hb⟩; refine ⟨_, rfl, ?_⟩; replace S := S.step hb; clear  hb H6; revert H; refine w_b (fun d7t d7t' => w_len0 (fun d8t d8t' d8t_ => fun H => ?_) (fun d8f d8f' d8f_ => fun H => ?_)) (fun d7f d7f' => fun H => ?_))
    | ((with_reducible refine gate_s (t := 27) (q := 4) d8t rfl ?_); refine ev_put2 rfl S rfl rfl 0 rfl 0 (.slice none 0 0) (.slice none 0 0) rfl rfl rfl rfl ?hr ?_; (case hr => have z0 := S.cell 0 rfl 0 rfl; have y0 := S.frozen 0 rfl 0; have z1 := S.cell 0 rfl 1 rfl; have y1 := S.frozen 0 rfl 1; first | (go_simp; done) | (go_simp; rfl)); intro w1_ S)
    | ((with_reducible refine gate_d (N := 23) d8f rfl ?_); refine goesL_ (some 23) rfl rfl Tryd.func34 (by kernel_rfl) rfl #[.slice A0 l0.length c0, .slice A1 l1.length c1] rfl EQ ?_; obtain ⟨⟨t9, t10⟩, H11, H⟩ := bind_p H; dsimp only at H; refine (rat_reduce.sc k _ _ l0 _ _ l1 t9 t10 _ (S.at 0 rfl) (S.at 1 rfl) H11).mono ?_; rintro _ w1_ ⟨B9, C9, B10, C10, rfl, ut9, ut10, hb⟩; refine ⟨_, rfl, ?_⟩; replace S := ((S.step hb).add ut9).add ut10; clear ut9 ut10 hb H11)
    | ((with_reducible refine gate_s (t := 27) (q := 4) d8f rfl ?_); refine ev_put2 rfl S rfl rfl 0 rfl 0 (.slice B9 t9.length C9) (.slice B10 t10.length C10) rfl rfl rfl rfl ?hr ?_; (case hr => have z0 := S.cell 0 rfl 0 rfl; have y0 := S.frozen 0 rfl 0; have z1 := S.cell 0 rfl 1 rfl; have y1 := S.frozen 0 rfl 1; first | (go_simp; done) | (go_simp; rfl)); intro w1_ S)
    | ((with_reducible refine gate_s (t := 27) (q := 4) d7f rfl ?_); refine ev_put2 rfl S rfl rfl 0 rfl 0 (.slice none 0 0) (.slice none 0 0) rfl rfl rfl rfl ?hr ?_; (case hr => have z0 := S.cell 0 rfl 0 rfl; have y0 := S.frozen 0 rfl 0; have z1 := S.cell 0 rfl 1 rfl; have y1 := S.frozen 0 rfl 1; first | (go_simp; done) | (go_simp; rfl)); intro w1_ S)
    | ((with_reducible refine gate_s (t := 27) (q := 4) d4f rfl ?_); refine ev_put2 rfl S rfl rfl 0 rfl 0 (.slice none 0 0) (.slice none 0 0) rfl rfl rfl rfl ?hr ?_; (case hr => have z0 := S.cell 0 rfl 0 rfl; have y0 := S.frozen 0 rfl 0; have z1 := S.cell 0 rfl 1 rfl; have y1 := S.frozen 0 rfl 1; first | (go_simp; done) | (go_simp; rfl)); intro w1_ S))
  all_goals first
    | (have _p := d8t; simp only [Option.some.injEq, Prod.mk.injEq] at H; obtain ⟨rfl, rfl, rfl⟩ := H; ((try simp only [Exit.inBlock, Exit.then]); refine bodyPost_ret (results_ct rfl _ _ g1 27 _ (0, 0) _ rfl (S.blk 0 rfl) Tryd.underlying27 rfl (by kernel_rfl)) rfl ?_); exact ⟨_, _, _, _, rfl, Row.nil _, Row.nil _, S.below⟩)
    | (have _p := d8f; simp only [Option.some.injEq, Prod.mk.injEq] at H; obtain ⟨rfl, rfl, rfl⟩ := H; ((try simp only [Exit.inBlock, Exit.then]); refine bodyPost_ret (results_ct rfl _ _ g1 27 _ (0, 0) _ rfl (S.blk 0 rfl) Tryd.underlying27 rfl (by kernel_rfl)) rfl ?_); exact ⟨_, _, _, _, rfl, S.at 1 rfl, S.at 0 rfl, S.below⟩)
    | (have _p := d7f; simp only [Option.some.injEq, Prod.mk.injEq] at H; obtain ⟨rfl, rfl, rfl⟩ := H; ((try simp only [Exit.inBlock, Exit.then]); refine bodyPost_ret (results_ct rfl _ _ g1 27 _ (0, 0) _ rfl (S.blk 0 rfl) Tryd.underlying27 rfl (by kernel_rfl)) rfl ?_); exact ⟨_, _, _, _, rfl, Row.nil _, Row.nil _, S.below⟩)
    | (have _p := d4f; simp only [Option.some.injEq, Prod.mk.injEq] at H; obtain ⟨rfl, rfl, rfl⟩ := H; ((try simp only [Exit.inBlock, Exit.then]); refine bodyPost_ret (results_ct rfl _ _ g1 27 _ (0, 0) _ rfl (S.blk 0 rfl) Tryd.underlying27 rfl (by kernel_rfl)) rfl ?_); exact ⟨_, _, _, _, rfl, Row.nil _, Row.nil _, S.below⟩)
set_option maxHeartbeats 8000000 in
set_option maxRecDepth 100000 in
theorem rat_Whole.sc (k : Nat) (a0 : Int) (r0 : List Int) (r1 : List Int) (w : World) (h : Aside0 (rat_Whole.f k a0 = some (r0, r1))) :
    Calls Tryd.prog 12 #[.int .u64 a0] w fun e w' => ∃ x0 y0 x1 y1, e = .returned (.agg #[.slice x0 r0.length y0, .slice x1 r1.length y1]) ∧ Row w' x0 y0 r0 ∧ Row w' x1 y1 r1 ∧ Below w.heap.size w w' := by
  have S := St.start w
  have H := h.out
  unfold rat_Whole.f at H
  clear h
  go_enter Tryd.func12, Tryd.ntmps12
  all_goals go_wp2_with (first
    | ((with_reducible refine gate_d (N := 2) trivial rfl ?_); refine ev_box 2 rfl S rfl #[.slice none 0 0, .slice none 0 0] 27 ?hr rfl ?_; (case hr => first | (go_simp; done) | (go_simp; rfl)); intro g1 w1_ S)
    | ((with_reducible refine gate_d (N := 4) trivial rfl ?_); refine goesL_ (some 4) rfl rfl Tryd.func35 (by kernel_rfl) rfl #[.int .u64 a0] rfl EQ ?_; obtain ⟨t2, H3, H⟩ := bind_p H; refine (nat_Of.sc k a0 t2 _ H3).mono ?_; rintro _ w1_ ⟨B2, C2, rfl, ut2, hb⟩; refine ⟨_, rfl, ?_⟩; replace S := (S.step hb).add ut2; clear ut2 hb H3)
    | ((with_reducible refine gate_d (N := 5) trivial rfl ?_); refine goesL_ (some 5) rfl rfl Tryd.func36 (by kernel_rfl) rfl #[] rfl EQ ?_; obtain ⟨t4, H5, H⟩ := bind_p H; refine (rat_one.sc k t4 _ H5).mono ?_; rintro _ w1_ ⟨B4, C4, rfl, ut4, hb⟩; refine ⟨_, rfl, ?_⟩; replace S := (S.step hb).add ut4; clear ut4 hb H5)
    | ((with_reducible refine gate_s (t := 27) (q := 2) trivial rfl ?_); refine ev_put2 rfl S rfl rfl 0 rfl 0 (.slice B2 t2.length C2) (.slice B4 t4.length C4) rfl rfl rfl rfl ?hr ?_; (case hr => have z0 := S.cell 0 rfl 0 rfl; have y0 := S.frozen 0 rfl 0; have z1 := S.cell 0 rfl 1 rfl; have y1 := S.frozen 0 rfl 1; first | (go_simp; done) | (go_simp; rfl)); intro w1_ S))
  all_goals first
    | (have _p := trivial; simp only [Option.some.injEq, Prod.mk.injEq] at H; obtain ⟨rfl, rfl⟩ := H; ((try simp only [Exit.inBlock, Exit.then]); refine bodyPost_ret (results_cell_row rfl _ _ g1 27 _ (0, 0) _ rfl (S.blk 0 rfl) Tryd.underlying27 rfl (by kernel_rfl)) rfl ?_); exact ⟨_, _, _, _, rfl, S.at 1 rfl, S.at 0 rfl, S.below⟩)
set_option maxHeartbeats 8000000 in
set_option maxRecDepth 100000 in
theorem rat_both.sc (k : Nat) (A0_0 : Option Addr) (c0_0 : Nat) (l0_0 : List Int) (A0_1 : Option Addr) (c0_1 : Nat) (l0_1 : List Int) (A1_0 : Option Addr) (c1_0 : Nat) (l1_0 : List Int) (A1_1 : Option Addr) (c1_1 : Nat) (l1_1 : List Int) (r0 : Int) (w : World) (h0_0 : Row w A0_0 c0_0 l0_0) (h0_1 : Row w A0_1 c0_1 l0_1) (h1_0 : Row w A1_0 c1_0 l1_0) (h1_1 : Row w A1_1 c1_1 l1_1) (h : Aside0 (rat_both.f k l0_0 l0_1 l1_0 l1_1 = some r0)) :
    Calls Tryd.prog 42 #[.agg #[.slice A0_0 l0_0.length c0_0, .slice A0_1 l0_1.length c0_1], .agg #[.slice A1_0 l1_0.length c1_0, .slice A1_1 l1_1.length c1_1]] w fun e w' => e = .returned (.int .i64 r0) ∧ Below w.heap.size w w' := by
  have S := ((((St.start w).add h1_1).add h1_0).add h0_1).add h0_0
  have H := h.out
  unfold rat_both.f at H
  clear h h0_0 h0_1 h1_0 h1_1
  go_enter Tryd.func42, Tryd.ntmps42
  all_goals go_wp2_with (first
    | ((with_reducible refine gate_d (N := 2) trivial rfl ?_); (try clear q0); (try clear q1); refine ev_box 2 rfl S rfl #[.slice A0_0 l0_0.length c0_0, .slice A0_1 l0_1.length c0_1] 27 ?hr rfl ?_; (case hr => first | (go_simp; done) | (go_simp; rfl)); intro g1 w1_ S)
    | ((with_reducible refine gate_d (N := 3) trivial rfl ?_); (try clear q0); (try clear q1); refine ev_box 3 rfl S rfl #[.slice A1_0 l1_0.length c1_0, .slice A1_1 l1_1.length c1_1] 27 ?hr rfl ?_; (case hr => first | (go_simp; done) | (go_simp; rfl)); intro g2 w1_ S; have q0 := S.cell 1 rfl 0 rfl; have q1 := S.cell 1 rfl 1 rfl)
    | ((with_reducible refine gate_d (N := 6) trivial rfl ?_); refine goesL_ (some 6) rfl rfl Tryd.func18 (by kernel_rfl) rfl #[.agg #[.slice A0_0 l0_0.length c0_0, .slice A0_1 l0_1.length c0_1]] rfl EQ ?_; (try clear q0); (try clear q1); obtain ⟨t3, H4, H⟩ := bind_p H; refine (rat_Right.sc k _ _ l0_0 _ _ l0_1 t3 _ (S.at 0 rfl) (S.at 1 rfl) H4).mono ?_; rintro _ w1_ ⟨rfl, hb⟩; refine ⟨_, rfl, ?_⟩; replace S := S.step hb; clear  hb H4; have q0 := S.cell 0 rfl 0 rfl; have q1 := S.cell 0 rfl 1 rfl; revert H; refine w_b (fun d5t d5t' => fun H => ?_) (fun d5f d5f' => fun H => ?_))
    | ((with_reducible refine gate_d (N := 10) d5t rfl ?_); (try (refine gate_guard (by rfl) ?_; dsimp only)); refine goesL_ (some 10) rfl rfl Tryd.func18 (by kernel_rfl) rfl #[.agg #[.slice A1_0 l1_0.length c1_0, .slice A1_1 l1_1.length c1_1]] rfl EQ ?_; (try clear q0); (try clear q1); obtain ⟨t6, H7, H⟩ := bind_p H; refine (rat_Right.sc k _ _ l1_0 _ _ l1_1 t6 _ (S.at 2 rfl) (S.at 3 rfl) H7).mono ?_; rintro _ w1_ ⟨rfl, hb⟩; refine ⟨_, rfl, ?_⟩; replace S := S.step hb; clear  hb H7; revert H; refine w_b (fun d8t d8t' => fun H => ?_) (fun d8f d8f' => fun H => ?_)))
  all_goals first
    | (have _p := d8t; obtain rfl := Option.some.inj H; go_ret; exact ⟨rfl, S.below⟩)
    | (have _p := d8f; obtain rfl := Option.some.inj H; go_ret; exact ⟨rfl, S.below⟩)
    | (have _p := d5f; obtain rfl := Option.some.inj H; go_ret; exact ⟨rfl, S.below⟩)
set_option maxHeartbeats 8000000 in
set_option maxRecDepth 100000 in
theorem rat_cross.sc (k : Nat) (A0_0 : Option Addr) (c0_0 : Nat) (l0_0 : List Int) (A0_1 : Option Addr) (c0_1 : Nat) (l0_1 : List Int) (A1_0 : Option Addr) (c1_0 : Nat) (l1_0 : List Int) (A1_1 : Option Addr) (c1_1 : Nat) (l1_1 : List Int) (r0 : List Int) (r1 : List Int) (r2 : Int) (w : World) (h0_0 : Row w A0_0 c0_0 l0_0) (h0_1 : Row w A0_1 c0_1 l0_1) (h1_0 : Row w A1_0 c1_0 l1_0) (h1_1 : Row w A1_1 c1_1 l1_1) (h : Aside0 (rat_cross.f k l0_0 l0_1 l1_0 l1_1 = some (r0, r1, r2))) :
    Calls Tryd.prog 43 #[.agg #[.slice A0_0 l0_0.length c0_0, .slice A0_1 l0_1.length c0_1], .agg #[.slice A1_0 l1_0.length c1_0, .slice A1_1 l1_1.length c1_1]] w fun e w' => ∃ x0 y0 x1 y1, e = .returned (.tuple #[.slice x0 r0.length y0, .slice x1 r1.length y1, .int .i64 r2]) ∧ Row w' x0 y0 r0 ∧ Row w' x1 y1 r1 ∧ Below w.heap.size w w' := by
  have S := ((((St.start w).add h1_1).add h1_0).add h0_1).add h0_0
  have H := h.out
  unfold rat_cross.f at H
  clear h h0_0 h0_1 h1_0 h1_1
  go_enter Tryd.func43, Tryd.ntmps43
  all_goals go_wp2_with (first
    | ((with_reducible refine gate_d (N := 2) trivial rfl ?_); (try clear q0); (try clear q1); refine ev_box 2 rfl S rfl #[.slice A0_0 l0_0.length c0_0, .slice A0_1 l0_1.length c0_1] 27 ?hr rfl ?_; (case hr => first | (go_simp; done) | (go_simp; rfl)); intro g1 w1_ S)
    | ((with_reducible refine gate_d (N := 3) trivial rfl ?_); (try clear q0); (try clear q1); refine ev_box 3 rfl S rfl #[.slice A1_0 l1_0.length c1_0, .slice A1_1 l1_1.length c1_1] 27 ?hr rfl ?_; (case hr => first | (go_simp; done) | (go_simp; rfl)); intro g2 w1_ S; have q0 := S.cell 1 rfl 0 rfl; have q1 := S.cell 0 rfl 1 rfl)
    | ((with_reducible refine gate_d (N := 16) trivial rfl ?_); refine goesL_ (some 16) rfl rfl Tryd.func64 (by kernel_rfl) rfl #[.slice A0_0 l0_0.length c0_0, .slice A1_1 l1_1.length c1_1] rfl EQ ?_; (try clear q0); (try clear q1); obtain ⟨⟨t3, t4⟩, H5, H⟩ := bind_p H; dsimp only at H; refine (nat_Mul.sc k _ _ l0_0 _ _ l1_1 t3 t4 _ (S.at 0 rfl) (S.at 3 rfl) H5).mono ?_; rintro _ w1_ ⟨B3, C3, rfl, ut3, hb⟩; refine ⟨_, rfl, ?_⟩; replace S := (S.step hb).add ut3; clear ut3 hb H5; have q0 := S.cell 0 rfl 0 rfl; have q1 := S.cell 1 rfl 1 rfl)
    | ((with_reducible refine gate_d (N := 24) trivial rfl ?_); refine goesL_ (some 24) rfl rfl Tryd.func64 (by kernel_rfl) rfl #[.slice A1_0 l1_0.length c1_0, .slice A0_1 l0_1.length c0_1] rfl EQ ?_; (try clear q0); (try clear q1); obtain ⟨⟨t6, t7⟩, H8, H⟩ := bind_p H; dsimp only at H; refine (nat_Mul.sc k _ _ l1_0 _ _ l0_1 t6 t7 _ (S.at 3 rfl) (S.at 2 rfl) H8).mono ?_; rintro _ w1_ ⟨B6, C6, rfl, ut6, hb⟩; refine ⟨_, rfl, ?_⟩; replace S := (S.step hb).add ut6; clear ut6 hb H8; revert H; refine w_mx (fun j9 gj9 => fun H => ?_)))
  all_goals first
    | (have _p := trivial; simp only [Option.some.injEq, Prod.mk.injEq] at H; obtain ⟨rfl, rfl, rfl⟩ := H; go_ret3; exact ⟨_, _, _, _, rfl, S.at 1 rfl, S.at 0 rfl, S.below⟩)
set_option maxHeartbeats 8000000 in
set_option maxRecDepth 100000 in
theorem rat_Cmp.sc (k : Nat) (A0_0 : Option Addr) (c0_0 : Nat) (l0_0 : List Int) (A0_1 : Option Addr) (c0_1 : Nat) (l0_1 : List Int) (A1_0 : Option Addr) (c1_0 : Nat) (l1_0 : List Int) (A1_1 : Option Addr) (c1_1 : Nat) (l1_1 : List Int) (r0 : Int) (r1 : Int) (w : World) (h0_0 : Row w A0_0 c0_0 l0_0) (h0_1 : Row w A0_1 c0_1 l0_1) (h1_0 : Row w A1_0 c1_0 l1_0) (h1_1 : Row w A1_1 c1_1 l1_1) (h : Aside0 (rat_Cmp.f k l0_0 l0_1 l1_0 l1_1 = some (r0, r1))) :
    Calls Tryd.prog 20 #[.agg #[.slice A0_0 l0_0.length c0_0, .slice A0_1 l0_1.length c0_1], .agg #[.slice A1_0 l1_0.length c1_0, .slice A1_1 l1_1.length c1_1]] w fun e w' => e = .returned (.tuple #[.int .i64 r0, .int .i64 r1]) ∧ Below w.heap.size w w' := by
  have S := ((((St.start w).add h1_1).add h1_0).add h0_1).add h0_0
  have H := h.out
  unfold rat_Cmp.f at H
  clear h h0_0 h0_1 h1_0 h1_1
  go_enter Tryd.func20, Tryd.ntmps20
  all_goals go_wp2_with (first
    | ((with_reducible refine gate_d (N := 2) trivial rfl ?_); (try clear q0); (try clear q1); (try clear q2); (try clear q3); refine ev_box 2 rfl S rfl #[.slice A0_0 l0_0.length c0_0, .slice A0_1 l0_1.length c0_1] 27 ?hr rfl ?_; (case hr => first | (go_simp; done) | (go_simp; rfl)); intro g1 w1_ S)
    | ((with_reducible refine gate_d (N := 3) trivial rfl ?_); (try clear q0); (try clear q1); (try clear q2); (try clear q3); refine ev_box 3 rfl S rfl #[.slice A1_0 l1_0.length c1_0, .slice A1_1 l1_1.length c1_1] 27 ?hr rfl ?_; (case hr => first | (go_simp; done) | (go_simp; rfl)); intro g2 w1_ S; have q0 := S.cell 1 rfl 0 rfl; have q1 := S.cell 1 rfl 1 rfl; have q2 := S.cell 0 rfl 0 rfl; have q3 := S.cell 0 rfl 1 rfl)
    | ((with_reducible refine gate_d (N := 12) trivial rfl ?_); refine goesL_ (some 12) rfl rfl Tryd.func42 (by kernel_rfl) rfl #[.agg #[.slice A0_0 l0_0.length c0_0, .slice A0_1 l0_1.length c0_1], .agg #[.slice A1_0 l1_0.length c1_0, .slice A1_1 l1_1.length c1_1]] rfl EQ ?_; (try clear q0); (try clear q1); (try clear q2); (try clear q3); obtain ⟨t3, H4, H⟩ := bind_p H; refine (rat_both.sc k _ _ l0_0 _ _ l0_1 _ _ l1_0 _ _ l1_1 t3 _ (S.at 0 rfl) (S.at 1 rfl) (S.at 2 rfl) (S.at 3 rfl) H4).mono ?_; rintro _ w1_ ⟨rfl, hb⟩; refine ⟨_, rfl, ?_⟩; replace S := S.step hb; clear  hb H4; have q0 := S.cell 1 rfl 0 rfl; have q1 := S.cell 1 rfl 1 rfl; have q2 := S.cell 0 rfl 0 rfl; have q3 := S.cell 0 rfl 1 rfl; revert H; refine w_eq (fun d5t d5t' => fun H => ?_) (fun d5f d5f' => fun H => ?_))
    | ((with_reducible refine gate_d (N := 19) d5t rfl ?_); refine goesL_ (some 19) rfl rfl Tryd.func43 (by kernel_rfl) rfl #[.agg #[.slice A0_0 l0_0.length c0_0, .slice A0_1 l0_1.length c0_1], .agg #[.slice A1_0 l1_0.length c1_0, .slice A1_1 l1_1.length c1_1]] rfl EQ ?_; (try clear q0); (try clear q1); (try clear q2); (try clear q3); obtain ⟨⟨t6, t7, t8⟩, H9, H⟩ := bind_p H; dsimp only at H; refine (rat_cross.sc k _ _ l0_0 _ _ l0_1 _ _ l1_0 _ _ l1_1 t6 t7 t8 _ (S.at 0 rfl) (S.at 1 rfl) (S.at 2 rfl) (S.at 3 rfl) H9).mono ?_; rintro _ w1_ ⟨B6, C6, B7, C7, rfl, ut6, ut7, hb⟩; refine ⟨_, rfl, ?_⟩; replace S := ((S.step hb).add ut6).add ut7; clear ut6 ut7 hb H9; revert H; refine w_eq (fun d10t d10t' => fun H => ?_) (fun d10f d10f' => fun H => ?_))
    | ((with_reducible refine gate_d (N := 28) d10t rfl ?_); refine goesL_ (some 28) rfl rfl Tryd.func41 (by kernel_rfl) rfl #[.slice B6 t6.length C6, .slice B7 t7.length C7] rfl EQ ?_; (try clear q0); (try clear q1); (try clear q2); (try clear q3); obtain ⟨t11, H12, H⟩ := bind_p H; refine (nat_Cmp.sc k _ _ t6 _ _ t7 t11 _ (S.at 1 rfl) (S.at 0 rfl) H12).mono ?_; rintro _ w1_ ⟨rfl, hb⟩; refine ⟨_, rfl, ?_⟩; replace S := S.step hb; clear  hb H12))
  all_goals first
    | (have _p := d10t; simp only [Option.some.injEq, Prod.mk.injEq] at H; obtain ⟨rfl, rfl⟩ := H; go_ret2; exact ⟨rfl, S.below⟩)
    | (have _p := d10f; simp only [Option.some.injEq, Prod.mk.injEq] at H; obtain ⟨rfl, rfl⟩ := H; go_ret2; exact ⟨rfl, S.below⟩)
    | (have _p := d5f; simp only [Option.some.injEq, Prod.mk.injEq] at H; obtain ⟨rfl, rfl⟩ := H; go_ret2; exact ⟨rfl, S.below⟩)
set_option maxHeartbeats 8000000 in
set_option maxRecDepth 100000 in
theorem rat_joined_nat_Add.sc (k : Nat) (A0_0 : Option Addr) (c0_0 : Nat) (l0_0 : List Int) (A0_1 : Option Addr) (c0_1 : Nat) (l0_1 : List Int) (A1_0 : Option Addr) (c1_0 : Nat) (l1_0 : List Int) (A1_1 : Option Addr) (c1_1 : Nat) (l1_1 : List Int) (r0 : List Int) (r1 : List Int) (r2 : Int) (w : World) (h0_0 : Row w A0_0 c0_0 l0_0) (h0_1 : Row w A0_1 c0_1 l0_1) (h1_0 : Row w A1_0 c1_0 l1_0) (h1_1 : Row w A1_1 c1_1 l1_1) (h : Aside0 (rat_joined_nat_Add.f k l0_0 l0_1 l1_0 l1_1 = some (r0, r1, r2))) :
    Calls Tryd.prog 44 #[.agg #[.slice A0_0 l0_0.length c0_0, .slice A0_1 l0_1.length c0_1], .agg #[.slice A1_0 l1_0.length c1_0, .slice A1_1 l1_1.length c1_1], .func (.func 46) #[] #[]] w fun e w' => ∃ x0 y0 x1 y1, e = .returned (.tuple #[.agg #[.slice x0 r0.length y0, .slice x1 r1.length y1], .int .i64 r2]) ∧ Row w' x0 y0 r0 ∧ Row w' x1 y1 r1 ∧ Below w.heap.size w w' := by
  have S := ((((St.start w).add h1_1).add h1_0).add h0_1).add h0_0
  have H := h.out
  unfold rat_joined_nat_Add.f at H
  clear h h0_0 h0_1 h1_0 h1_1
  go_enter Tryd.func44, Tryd.ntmps44
  all_goals go_wp2_with (first
    | ((with_reducible refine gate_d (N := 3) trivial rfl ?_); (try clear q0); (try clear q1); (try clear q2); (try clear q3); refine ev_box 3 rfl S rfl #[.slice A0_0 l0_0.length c0_0, .slice A0_1 l0_1.length c0_1] 27 ?hr rfl ?_; (case hr => first | (go_simp; done) | (go_simp; rfl)); intro g1 w1_ S)
    | ((with_reducible refine gate_d (N := 4) trivial rfl ?_); (try clear q0); (try clear q1); (try clear q2); (try clear q3); refine ev_box 4 rfl S rfl #[.slice A1_0 l1_0.length c1_0, .slice A1_1 l1_1.length c1_1] 27 ?hr rfl ?_; (case hr => first | (go_simp; done) | (go_simp; rfl)); intro g2 w1_ S)
    | ((with_reducible refine gate_d (N := 6) trivial rfl ?_); (try clear q0); (try clear q1); (try clear q2); (try clear q3); refine ev_box 6 rfl S rfl #[.slice none 0 0, .slice none 0 0] 27 ?hr rfl ?_; (case hr => first | (go_simp; done) | (go_simp; rfl)); intro g3 w1_ S; have q0 := S.cell 2 rfl 0 rfl; have q1 := S.cell 2 rfl 1 rfl; have q2 := S.cell 1 rfl 0 rfl; have q3 := S.cell 1 rfl 1 rfl)
    | ((with_reducible refine gate_d (N := 16) trivial rfl ?_); refine goesL_ (some 16) rfl rfl Tryd.func42 (by kernel_rfl) rfl #[.agg #[.slice A0_0 l0_0.length c0_0, .slice A0_1 l0_1.length c0_1], .agg #[.slice A1_0 l1_0.length c1_0, .slice A1_1 l1_1.length c1_1]] rfl EQ ?_; (try clear q0); (try clear q1); (try clear q2); (try clear q3); obtain ⟨t4, H5, H⟩ := bind_p H; refine (rat_both.sc k _ _ l0_0 _ _ l0_1 _ _ l1_0 _ _ l1_1 t4 _ (S.at 0 rfl) (S.at 1 rfl) (S.at 2 rfl) (S.at 3 rfl) H5).mono ?_; rintro _ w1_ ⟨rfl, hb⟩; refine ⟨_, rfl, ?_⟩; replace S := S.step hb; clear  hb H5; have q0 := S.cell 2 rfl 1 rfl; have q1 := S.cell 1 rfl 1 rfl; revert H; refine w_eq (fun d6t d6t' => fun H => ?_) (fun d6f d6f' => fun H => ?_))
    | ((with_reducible refine gate_d (N := 26) d6t rfl ?_); refine goesL_ (some 26) rfl rfl Tryd.func64 (by kernel_rfl) rfl #[.slice A0_1 l0_1.length c0_1, .slice A1_1 l1_1.length c1_1] rfl EQ ?_; (try clear q0); (try clear q1); (try clear q2); (try clear q3); obtain ⟨⟨t7, t8⟩, H9, H⟩ := bind_p H; dsimp only at H; refine (nat_Mul.sc k _ _ l0_1 _ _ l1_1 t7 t8 _ (S.at 1 rfl) (S.at 3 rfl) H9).mono ?_; rintro _ w1_ ⟨B7, C7, rfl, ut7, hb⟩; refine ⟨_, rfl, ?_⟩; replace S := (S.step hb).add ut7; clear ut7 hb H9; have q0 := S.cell 2 rfl 0 rfl; have q1 := S.cell 2 rfl 1 rfl; have q2 := S.cell 1 rfl 0 rfl; have q3 := S.cell 1 rfl 1 rfl; revert H; refine w_eq (fun d10t d10t' => fun H => ?_) (fun d10f d10f' => fun H => ?_))
    | ((with_reducible refine gate_d (N := 36) d10t rfl ?_); refine goesL_ (some 36) rfl rfl Tryd.func43 (by kernel_rfl) rfl #[.agg #[.slice A0_0 l0_0.length c0_0, .slice A0_1 l0_1.length c0_1], .agg #[.slice A1_0 l1_0.length c1_0, .slice A1_1 l1_1.length c1_1]] rfl EQ ?_; (try clear q0); (try clear q1); (try clear q2); (try clear q3); obtain ⟨⟨t11, t12, t13⟩, H14, H⟩ := bind_p H; dsimp only at H; refine (rat_cross.sc k _ _ l0_0 _ _ l0_1 _ _ l1_0 _ _ l1_1 t11 t12 t13 _ (S.at 1 rfl) (S.at 2 rfl) (S.at 3 rfl) (S.at 4 rfl) H14).mono ?_; rintro _ w1_ ⟨B11, C11, B12, C12, rfl, ut11, ut12, hb⟩; refine ⟨_, rfl, ?_⟩; replace S := ((S.step hb).add ut11).add ut12; clear ut11 ut12 hb H14; revert H; refine w_eq (fun d15t d15t' => fun H => ?_) (fun d15f d15f' => fun H => ?_))
    | ((with_reducible refine gate_d (N := 48) d15t rfl ?_); refine goesV_ (some 48) rfl rfl Tryd.func46 (by kernel_rfl) rfl #[.slice B11 t11.length C11, .slice B12 t12.length C12] rfl rfl EQ ?_; (try clear q0); (try clear q1); (try clear q2); (try clear q3); obtain ⟨⟨t16, t17⟩, H18, H⟩ := bind_p H; dsimp only at H; refine (nat_Add.sc k _ _ t11 _ _ t12 t16 t17 _ (S.at 1 rfl) (S.at 0 rfl) H18).mono ?_; rintro _ w1_ ⟨B16, C16, rfl, ut16, hb⟩; refine ⟨_, rfl, ?_⟩; replace S := (S.step hb).add ut16; clear ut16 hb H18; revert H; refine w_eq (fun d19t d19t' => fun H => ?_) (fun d19f d19f' => fun H => ?_))
    | ((with_reducible refine gate_d (N := 57) d19t rfl ?_); refine goesL_ (some 57) rfl rfl Tryd.func34 (by kernel_rfl) rfl #[.slice B16 t16.length C16, .slice B7 t7.length C7] rfl EQ ?_; (try clear q0); (try clear q1); (try clear q2); (try clear q3); obtain ⟨⟨t20, t21⟩, H22, H⟩ := bind_p H; dsimp only at H; refine (rat_reduce.sc k _ _ t16 _ _ t7 t20 t21 _ (S.at 0 rfl) (S.at 3 rfl) H22).mono ?_; rintro _ w1_ ⟨B20, C20, B21, C21, rfl, ut20, ut21, hb⟩; refine ⟨_, rfl, ?_⟩; replace S := ((S.step hb).add ut20).add ut21; clear ut20 ut21 hb H22)
    | ((with_reducible refine gate_s (t := 27) (q := 6) d19t rfl ?_); (try clear q0); (try clear q1); (try clear q2); (try clear q3); refine ev_put2 rfl S rfl rfl 0 rfl 0 (.slice B20 t20.length C20) (.slice B21 t21.length C21) rfl rfl rfl rfl ?hr ?_; (case hr => have z0 := S.cell 0 rfl 0 rfl; have y0 := S.frozen 0 rfl 0; have z1 := S.cell 0 rfl 1 rfl; have y1 := S.frozen 0 rfl 1; first | (go_simp; done) | (go_simp; rfl)); intro w1_ S)
    | ((with_reducible refine gate_s (t := 27) (q := 6) d19f rfl ?_); (try clear q0); (try clear q1); (try clear q2); (try clear q3); refine ev_put2 rfl S rfl rfl 0 rfl 0 (.slice none 0 0) (.slice none 0 0) rfl rfl rfl rfl ?hr ?_; (case hr => have z0 := S.cell 0 rfl 0 rfl; have y0 := S.frozen 0 rfl 0; have z1 := S.cell 0 rfl 1 rfl; have y1 := S.frozen 0 rfl 1; first | (go_simp; done) | (go_simp; rfl)); intro w1_ S)
    | ((with_reducible refine gate_s (t := 27) (q := 6) d15f rfl ?_); (try clear q0); (try clear q1); (try clear q2); (try clear q3); refine ev_put2 rfl S rfl rfl 0 rfl 0 (.slice none 0 0) (.slice none 0 0) rfl rfl rfl rfl ?hr ?_; (case hr => have z0 := S.cell 0 rfl 0 rfl; have y0 := S.frozen 0 rfl 0; have z1 := S.cell 0 rfl 1 rfl; have y1 := S.frozen 0 rfl 1; first | (go_simp; done) | (go_simp; rfl)); intro w1_ S)
    | ((with_reducible refine gate_s (t := 27) (q := 6) d10f rfl ?_); (try clear q0); (try clear q1); (try clear q2); (try clear q3); refine ev_put2 rfl S rfl rfl 0 rfl 0 (.slice none 0 0) (.slice none 0 0) rfl rfl rfl rfl ?hr ?_; (case hr => have z0 := S.cell 0 rfl 0 rfl; have y0 := S.frozen 0 rfl 0; have z1 := S.cell 0 rfl 1 rfl; have y1 := S.frozen 0 rfl 1; first | (go_simp; done) | (go_simp; rfl)); intro w1_ S)
    | ((with_reducible refine gate_s (t := 27) (q := 6) d6f rfl ?_); (try clear q0); (try clear q1); (try clear q2); (try clear q3); refine ev_put2 rfl S rfl rfl 0 rfl 0 (.slice none 0 0) (.slice none 0 0) rfl rfl rfl rfl ?hr ?_; (case hr => have z0 := S.cell 0 rfl 0 rfl; have y0 := S.frozen 0 rfl 0; have z1 := S.cell 0 rfl 1 rfl; have y1 := S.frozen 0 rfl 1; first | (go_simp; done) | (go_simp; rfl)); intro w1_ S))
  all_goals first
    | (have _p := d19t; simp only [Option.some.injEq, Prod.mk.injEq] at H; obtain ⟨rfl, rfl, rfl⟩ := H; ((try simp only [Exit.inBlock, Exit.then]); refine bodyPost_ret (results_ct rfl _ _ g3 27 _ (0, 0) _ rfl (S.blk 0 rfl) Tryd.underlying27 rfl (by kernel_rfl)) rfl ?_); exact ⟨_, _, _, _, rfl, S.at 1 rfl, S.at 0 rfl, S.below⟩)
    | (have _p := d19f; simp only [Option.some.injEq, Prod.mk.injEq] at H; obtain ⟨rfl, rfl, rfl⟩ := H; ((try simp only [Exit.inBlock, Exit.then]); refine bodyPost_ret (results_ct rfl _ _ g3 27 _ (0, 0) _ rfl (S.blk 0 rfl) Tryd.underlying27 rfl (by kernel_rfl)) rfl ?_); exact ⟨_, _, _, _, rfl, Row.nil _, Row.nil _, S.below⟩)
    | (have _p := d15f; simp only [Option.some.injEq, Prod.mk.injEq] at H; obtain ⟨rfl, rfl, rfl⟩ := H; ((try simp only [Exit.inBlock, Exit.then]); refine bodyPost_ret (results_ct rfl _ _ g3 27 _ (0, 0) _ rfl (S.blk 0 rfl) Tryd.underlying27 rfl (by kernel_rfl)) rfl ?_); exact ⟨_, _, _, _, rfl, Row.nil _, Row.nil _, S.below⟩)
    | (have _p := d10f; simp only [Option.some.injEq, Prod.mk.injEq] at H; obtain ⟨rfl, rfl, rfl⟩ := H; ((try simp only [Exit.inBlock, Exit.then]); refine bodyPost_ret (results_ct rfl _ _ g3 27 _ (0, 0) _ rfl (S.blk 0 rfl) Tryd.underlying27 rfl (by kernel_rfl)) rfl ?_); exact ⟨_, _, _, _, rfl, Row.nil _, Row.nil _, S.below⟩)
    | (have _p := d6f; simp only [Option.some.injEq, Prod.mk.injEq] at H; obtain ⟨rfl, rfl, rfl⟩ := H; ((try simp only [Exit.inBlock, Exit.then]); refine bodyPost_ret (results_ct rfl _ _ g3 27 _ (0, 0) _ rfl (S.blk 0 rfl) Tryd.underlying27 rfl (by kernel_rfl)) rfl ?_); exact ⟨_, _, _, _, rfl, Row.nil _, Row.nil _, S.below⟩)
end Go.Proofs.YtecbbenfcepohaaDoor.V
