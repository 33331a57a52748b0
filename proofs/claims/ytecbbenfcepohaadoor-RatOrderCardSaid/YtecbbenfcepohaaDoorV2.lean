-- Printed by this session's own program out of the translation.
import Derived.Test.YtecbbenfcepohaaDoorV1
namespace Go.Proofs.YtecbbenfcepohaaDoor.V
open Go.RowKit Go.Proofs.YtecbbenfcepohaaDoor.K Go.Proofs.YtecbbenfcepohaaDoorW.PrintWords Go.Proofs.YtecbbenfcepohaaDoorW.PrintLast Go.Proofs.YtecbbenfcepohaaDoorW.PrintMore Go.Proofs.YtecbbenfcepohaaDoor.RW
set_option linter.unusedVariables false
set_option linter.unusedSimpArgs false
set_option maxHeartbeats 8000000 in
set_option maxRecDepth 100000 in
theorem rat_joined_nat_Sub.sc (k : Nat) (A0_0 : Option Addr) (c0_0 : Nat) (l0_0 : List Int) (A0_1 : Option Addr) (c0_1 : Nat) (l0_1 : List Int) (A1_0 : Option Addr) (c1_0 : Nat) (l1_0 : List Int) (A1_1 : Option Addr) (c1_1 : Nat) (l1_1 : List Int) (r0 : List Int) (r1 : List Int) (r2 : Int) (w : World) (h0_0 : Row w A0_0 c0_0 l0_0) (h0_1 : Row w A0_1 c0_1 l0_1) (h1_0 : Row w A1_0 c1_0 l1_0) (h1_1 : Row w A1_1 c1_1 l1_1) (h : Aside0 (rat_joined_nat_Sub.f k l0_0 l0_1 l1_0 l1_1 = some (r0, r1, r2))) :
    Calls Tryd.prog 44 #[.agg #[.slice A0_0 l0_0.length c0_0, .slice A0_1 l0_1.length c0_1], .agg #[.slice A1_0 l1_0.length c1_0, .slice A1_1 l1_1.length c1_1], .func (.func 45) #[] #[]] w fun e w' => ∃ x0 y0 x1 y1, e = .returned (.tuple #[.agg #[.slice x0 r0.length y0, .slice x1 r1.length y1], .int .i64 r2]) ∧ Row w' x0 y0 r0 ∧ Row w' x1 y1 r1 ∧ Below w.heap.size w w' := by
  have S := ((((St.start w).add h1_1).add h1_0).add h0_1).add h0_0
  have H := h.out
  unfold rat_joined_nat_Sub.f at H
  clear h h0_0 h0_1 h1_0 h1_1
  go_enter Tryd.func44, Tryd.ntmps44
  all_goals go_wp2_with (first
    | ((with_reducible refine gate_d (N := 3) trivial rfl ?_); (try clear q0); (try clear q1); (try clear q2); (try clear q3); refine ev_box 3 rfl S rfl #[.slice A0_0 l0_0.length c0_0, .slice A0_1 l0_1.length c0_1] 27 ?hr rfl ?_; (case hr => first | (go_simp; done) | (go_simp; rfl)); intro g1 w1_ S)
    | ((with_reducible refine gate_d (N := 4) trivial rfl ?_); (try clear q0); (try clear q1); (try clear q2); (try clear q3); refine ev_box 4 rfl S rfl #[.slice A1_0 l1_0.length c1_0, .slice A1_1 l1_1.length c1_1] 27 ?hr rfl ?_; (case hr => first | (go_simp; done) | (go_simp; rfl)); intro g2 w1_ S)
    | ((with_reducible refine gate_d (N := 6) trivial rfl ?_); (try clear q0); (try clear q1); (try clear q2); (try clear q3); refine ev_box 6 rfl S rfl #[.slice none 0 0, .slice none 0 0] 27 ?hr rfl ?_; (case hr => first | (go_simp; done) | (go_simp; rfl)); intro g3 w1_ S; have q0 := S.cell 2 rfl 0 rfl; have q1 := S.cell 2 rfl 1 rfl; have q2 := S.cell 1 rfl 0 rfl; have q3 := S.cell 1 rfl 1 rfl)
    | ((with_reducible refine gate_d (N := 16) trivial rfl ?_); refine goesL_ (some 16) rfl rfl Tryd.func42 (by kernel_rfl) rfl #[.agg #[.slice A0_0 l0_0.length c0_0, .slice A0_1 l0_1.length c0_1], .agg #[.slice A1_0 l1_0.length c1_0, .slice A1_1 l1_1.length c1_1]] rfl EQ ?_; (try clear q0); (try clear q1); (try clear q2); (try clear q3); obtain ⟨t4, H5, H⟩ := bind_p H; refine (rat_both.sc k _ _ l0_0 _ _ l0_1 _ _ l1_0 _ _ l1_1 t4 _ (S.at 0 rfl) (S.at 1 rfl) (S.at 2 rfl) (S.at 3 rfl) H5).mono ?_; rintro _ w1_ ⟨rfl, hb⟩; refine ⟨_, rfl, ?_⟩; replace S := S.step hb; clear  hb H5; have q0 := S.cell 2 rfl 1 rfl; have q1 := S.cell 1 rfl 1 rfl; revert H; refine w_eq (fun d6t d6t' => fun H => ?_) (fun d6f d6f' => fun H => ?_))
    | ((with_reducible refine gate_d (N := 26) d6t rfl ?_); refine goesL_ (some 26) rfl rfl Tryd.func64 (by kernel_rfl) rfl #[.slice A0_1 l0_1.length c0_1, .slice A1_1 l1_1.length c1_1] rfl EQ ?_; (try clear q0); (try clear q1); (try clear q2); (try clear q3); obtain ⟨⟨t7, t8⟩, H9, H⟩ := bind_p H; dsimp only at H; refine (nat_Mul.sc k _ _ l0_1 _ _ l1_1 t7 t8 _ (S.at 1 rfl) (S.at 3 rfl) H9).mono ?_; rintro _ w1_ ⟨B7, C7, rfl, ut7, hb⟩; refine ⟨_, rfl, ?_⟩; replace S := (S.step hb).add ut7; clear ut7 hb H9; have q0 := S.cell 2 rfl 0 rfl; have q1 := S.cell 2 rfl 1 rfl; have q2 := S.cell 1 rfl 0 rfl; have q3 := S.cell 1 rfl 1 rfl; revert H; refine w_eq (fun d10t d10t' => fun H => ?_) (fun d10f d10f' => fun H => ?_))
    | ((with_reducible refine gate_d (N := 36) d10t rfl ?_); refine goesL_ (some 36) rfl rfl Tryd.func43 (by kernel_rfl) rfl #[.agg #[.slice A0_0 l0_0.length c0_0, .slice A0_1 l0_1.length c0_1], .agg #[.slice A1_0 l1_0.length c1_0, .slice A1_1 l1_1.length c1_1]] rfl EQ ?_; (try clear q0); (try clear q1); (try clear q2); (try clear q3); obtain ⟨⟨t11, t12, t13⟩, H14, H⟩ := bind_p H; dsimp only at H; refine (rat_cross.sc k _ _ l0_0 _ _ l0_1 _ _ l1_0 _ _ l1_1 t11 t12 t13 _ (S.at 1 rfl) (S.at 2 rfl) (S.at 3 rfl) (S.at 4 rfl) H14).mono ?_; rintro _ w1_ ⟨B11, C11, B12, C12, rfl, ut11, ut12, hb⟩; refine ⟨_, rfl, ?_⟩; replace S := ((S.step hb).add ut11).add ut12; clear ut11 ut12 hb H14; revert H; refine w_eq (fun d15t d15t' => fun H => ?_) (fun d15f d15f' => fun H => ?_))
    | ((with_reducible refine gate_d (N := 48) d15t rfl ?_); refine goesV_ (some 48) rfl rfl Tryd.func45 (by kernel_rfl) rfl #[.slice B11 t11.length C11, .slice B12 t12.length C12] rfl rfl EQ ?_; (try clear q0); (try clear q1); (try clear q2); (try clear q3); obtain ⟨⟨t16, t17⟩, H18, H⟩ := bind_p H; dsimp only at H; refine (nat_Sub.sc k _ _ t11 _ _ t12 t16 t17 _ (S.at 1 rfl) (S.at 0 rfl) H18).mono ?_; rintro _ w1_ ⟨B16, C16, rfl, ut16, hb⟩; refine ⟨_, rfl, ?_⟩; replace S := (S.step hb).add ut16; clear ut16 hb H18; revert H; refine w_eq (fun d19t d19t' => fun H => ?_) (fun d19f d19f' => fun H => ?_))
    | ((with_reducible refine gate_d (N := 57) d19t rfl ?_); refine goesL_ (some 57) rfl rfl Tryd.func34 (by kernel_rfl) rfl #[.slice B16 t16.length C16, .slice B7 t7.length C7] rfl EQ ?_; (try clear q0); (try clear q1); (try clear q2); (try clear q3); obtain ⟨⟨t20, t21⟩, H22, H⟩ := bind_p H; dsimp only at H; refine (rat_reduce.sc k _ _ t16 _ _ t7 t20 t21 _ (S.at 0 rfl) (S.at 3 rfl) H22).mono ?_; rintro _ w1_ ⟨B20, C20, B21, C21, rfl, ut20, ut21, hb⟩; refine ⟨_, rfl, ?_⟩; replace S := ((S.step hb).add ut20).add ut21; clear ut20 ut21 hb H22)
    | ((with_reducible refine gate_s (t := 27) (q := 6) d19t rfl ?_); (try clear q0); (try clear q1); (try clear q2); (try clear q3); refine ev_put2 rfl S rfl rfl 0 rfl 0 (.slice B20 t20.length C20) (.slice B21 t21.length C21) rfl rfl rfl rfl ?hr ?_; (case hr => have z0 := S.cell 0 rfl 0 rfl; have y0 := S.frozen 0 rfl 0; have z1 := S.cell 0 rfl 1 rfl; have y1 := S.frozen 0 rfl 1; first | (go_simp; done) | (go_simp; rfl)); intro w1_ S)
    | ((with_reducible refine gate_s (t := 27) (q := 6) d19f rfl ?_); (try clear q0); (try clear q1); (try clear q2); (try clear q3); refine ev_put2 rfl S rfl rfl 0 rfl 0 (.slice none 0 0) (.slice none 0 0) rfl rfl rfl rfl ?hr ?_; (case hr => have z0 := S.cell 0 rfl 0 rfl; have y0 := S.frozen 0 rfl 0; have z1 := S.cell 0 rfl 1 rfl; have y1 := S.frozen 0 rfl 1; first | (go_simp; done) | (go_simp; rfl)); intro w1_ S)
    | ((with_reducible refine gate_s (t := 27) (q := 6) d15f rfl ?_); (try clear q0); (try clear q1); (try clear q2); (try clear q3); refine ev_put2 rfl S rfl rfl 0 rfl 0 (.slice none 0 0) (.slice none 0 0) rfl rfl rfl rfl ?hr ?_; (case hr => have z0 := S.cell 0 rfl 0 rfl; have y0 := S.frozen 0 rfl 0; have z1 := S.cell 0 rfl 1 rfl; have y1 := S.frozen 0 rfl 1; first | (go_simp; done) | (go_simp; rfl)); intro w1_ S)
    | ((with_reducible refine gate_s (t := 27) (q := 6) d10f rfl ?_); (try clear q0); (try clear q1); (try clear q2); (try clear q3); refine ev_put2 rfl S rfl rfl 0 rfl 0 (.slice none 0 0) (.slice none 0 0) rfl rfl rfl rfl ?hr ?_; (case hr => have z0 := S.cell 0 rfl 0 rfl; have y0 := S.frozen 0 rfl 0; have z1 := S.cell 0 rfl 1 rfl; have y1 := S.frozen 0 rfl 1; first | (go_simp; done) | (go_simp; rfl)); intro w1_ S)
    | ((with_reducible refine gate_s (t := 27) (q := 6) d6f rfl ?_); (try clear q0); (try clear q1); (try clear q2); (try clear q3); refine ev_put2 rfl S rfl rfl 0 rfl 0 (.slice none 0 0) (.slice none 0 0) rfl rfl rfl rfl ?hr ?_; (case hr => have z0 := S.cell 0 rfl 0 rfl; have y0 := S.frozen 0 rfl 0; have z1 := S.cell 0 rfl 1 rfl; have y1 := S.frozen 0 rfl 1; first | (go_simp; done) | (go_simp; rfl)); intro w1_ S))
  all_goals first
    | (have _p := d19t; simp only [Option.some.injEq, Prod.mk.injEq] at H; obtain ⟨rfl, rfl, rfl⟩ := H; ((try simp only [Exit.inBlock, Exit.then]); refine bodyPost_ret (results_ct rfl _ _ g3 27 _ (0, 0) _ rfl (S.blk 0 rfl) Tryd.underlying27 rfl (by kernel_rfl)) rfl ?_); exact ⟨_, _, _, _, rfl, S.at 1 rfl, S.at 0 rfl, S.below⟩)
    | (have _p := d19f; simp only [Option.some.injEq, Prod.mk.injEq] at H; obtain ⟨rfl, rfl, rfl⟩ := H; ((try simp only [Exit.inBlock, Exit.then]); refine bodyPost_ret (results_ct rfl _ _ g3 27 _ (0, 0) _ rfl (S.blk 0 rfl) Tryd.underlying27 rfl (by kernel_rfl)) rfl ?_); exact ⟨_, _, _, _, rfl, Row.nil _, Row.nil _, S.below⟩)
    | (have _p := d15f; simp only [Option.some.injEq, Prod.mk.injEq] at H; obtain ⟨rfl, rfl, rfl⟩ := H; ((try simp only [Exit.inBlock, Exit.then]); refine bodyPost_ret (results_ct rfl _ _ g3 27 _ (0, 0) _ rfl (S.blk 0 rfl) Tryd.underlying27 rfl (by kernel_rfl)) rfl ?_); exact ⟨_, _, _, _, rfl, Row.nil _, Row.nil _, S.below⟩)
    | (have _p := d10f; simp only [Option.some.injEq, Prod.mk.injEq] at H; obtain ⟨rfl, rfl, rfl⟩ := H; ((try simp only [Exit.inBlock, Exit.then]); refine bodyPost_ret (results_ct rfl _ _ g3 27 _ (0, 0) _ rfl (S.blk 0 rfl) Tryd.underlying27 rfl (by kernel_rfl)) rfl ?_); exact ⟨_, _, _, _, rfl, Row.nil _, Row.nil _, S.below⟩)
    | (have _p := d6f; simp only [Option.some.injEq, Prod.mk.injEq] at H; obtain ⟨rfl, rfl, rfl⟩ := H; ((try simp only [Exit.inBlock, Exit.then]); refine bodyPost_ret (results_ct rfl _ _ g3 27 _ (0, 0) _ rfl (S.blk 0 rfl) Tryd.underlying27 rfl (by kernel_rfl)) rfl ?_); exact ⟨_, _, _, _, rfl, Row.nil _, Row.nil _, S.below⟩)
set_option maxHeartbeats 8000000 in
set_option maxRecDepth 100000 in
theorem rat_over.sc (k : Nat) (A0 : Option Addr) (c0 : Nat) (l0 : List Int) (A1 : Option Addr) (c1 : Nat) (l1 : List Int) (A2 : Option Addr) (c2 : Nat) (l2 : List Int) (A3 : Option Addr) (c3 : Nat) (l3 : List Int) (r0 : List Int) (r1 : List Int) (r2 : Int) (w : World) (h0 : Row w A0 c0 l0) (h1 : Row w A1 c1 l1) (h2 : Row w A2 c2 l2) (h3 : Row w A3 c3 l3) (h : Aside0 (rat_over.f k l0 l1 l2 l3 = some (r0, r1, r2))) :
    Calls Tryd.prog 47 #[.slice A0 l0.length c0, .slice A1 l1.length c1, .slice A2 l2.length c2, .slice A3 l3.length c3] w fun e w' => ∃ x0 y0 x1 y1, e = .returned (.tuple #[.agg #[.slice x0 r0.length y0, .slice x1 r1.length y1], .int .i64 r2]) ∧ Row w' x0 y0 r0 ∧ Row w' x1 y1 r1 ∧ Below w.heap.size w w' := by
  have S := ((((St.start w).add h3).add h2).add h1).add h0
  have H := h.out
  unfold rat_over.f at H
  clear h h0 h1 h2 h3
  go_enter Tryd.func47, Tryd.ntmps47
  all_goals go_wp2_with (first
    | ((with_reducible refine gate_d (N := 8) trivial rfl ?_); refine ev_box 8 rfl S rfl #[.slice none 0 0, .slice none 0 0] 27 ?hr rfl ?_; (case hr => first | (go_simp; done) | (go_simp; rfl)); intro g1 w1_ S)
    | ((with_reducible refine gate_d (N := 18) trivial rfl ?_); refine goesL_ (some 18) rfl rfl Tryd.func64 (by kernel_rfl) rfl #[.slice A0 l0.length c0, .slice A1 l1.length c1] rfl EQ ?_; obtain ⟨⟨t2, t3⟩, H4, H⟩ := bind_p H; dsimp only at H; refine (nat_Mul.sc k _ _ l0 _ _ l1 t2 t3 _ (S.at 0 rfl) (S.at 1 rfl) H4).mono ?_; rintro _ w1_ ⟨B2, C2, rfl, ut2, hb⟩; refine ⟨_, rfl, ?_⟩; replace S := (S.step hb).add ut2; clear ut2 hb H4)
    | ((with_reducible refine gate_d (N := 24) trivial rfl ?_); refine goesL_ (some 24) rfl rfl Tryd.func64 (by kernel_rfl) rfl #[.slice A2 l2.length c2, .slice A3 l3.length c3] rfl EQ ?_; obtain ⟨⟨t5, t6⟩, H7, H⟩ := bind_p H; dsimp only at H; refine (nat_Mul.sc k _ _ l2 _ _ l3 t5 t6 _ (S.at 3 rfl) (S.at 4 rfl) H7).mono ?_; rintro _ w1_ ⟨B5, C5, rfl, ut5, hb⟩; refine ⟨_, rfl, ?_⟩; replace S := (S.step hb).add ut5; clear ut5 hb H7; revert H; refine w_mx (fun j8 gj8 => w_eq (fun d9t d9t' => fun H => ?_) (fun d9f d9f' => fun H => ?_)))
    | ((with_reducible refine gate_d (N := 36) d9t rfl ?_); refine goesL_ (some 36) rfl rfl Tryd.func34 (by kernel_rfl) rfl #[.slice B2 t2.length C2, .slice B5 t5.length C5] rfl EQ ?_; obtain ⟨⟨t10, t11⟩, H12, H⟩ := bind_p H; dsimp only at H; refine (rat_reduce.sc k _ _ t2 _ _ t5 t10 t11 _ (S.at 1 rfl) (S.at 0 rfl) H12).mono ?_; rintro _ w1_ ⟨B10, C10, B11, C11, rfl, ut10, ut11, hb⟩; refine ⟨_, rfl, ?_⟩; replace S := ((S.step hb).add ut10).add ut11; clear ut10 ut11 hb H12)
    | ((with_reducible refine gate_s (t := 27) (q := 8) d9t rfl ?_); refine ev_put2 rfl S rfl rfl 0 rfl 0 (.slice B10 t10.length C10) (.slice B11 t11.length C11) rfl rfl rfl rfl ?hr ?_; (case hr => have z0 := S.cell 0 rfl 0 rfl; have y0 := S.frozen 0 rfl 0; have z1 := S.cell 0 rfl 1 rfl; have y1 := S.frozen 0 rfl 1; first | (go_simp; done) | (go_simp; rfl)); intro w1_ S)
    | ((with_reducible refine gate_s (t := 27) (q := 8) d9f rfl ?_); refine ev_put2 rfl S rfl rfl 0 rfl 0 (.slice none 0 0) (.slice none 0 0) rfl rfl rfl rfl ?hr ?_; (case hr => have z0 := S.cell 0 rfl 0 rfl; have y0 := S.frozen 0 rfl 0; have z1 := S.cell 0 rfl 1 rfl; have y1 := S.frozen 0 rfl 1; first | (go_simp; done) | (go_simp; rfl)); intro w1_ S))
  all_goals first
    | (have _p := d9t; simp only [Option.some.injEq, Prod.mk.injEq] at H; obtain ⟨rfl, rfl, rfl⟩ := H; ((try simp only [Exit.inBlock, Exit.then]); refine bodyPost_ret (results_ct rfl _ _ g1 27 _ (0, 0) _ rfl (S.blk 0 rfl) Tryd.underlying27 rfl (by kernel_rfl)) rfl ?_); exact ⟨_, _, _, _, rfl, S.at 1 rfl, S.at 0 rfl, S.below⟩)
    | (have _p := d9f; simp only [Option.some.injEq, Prod.mk.injEq] at H; obtain ⟨rfl, rfl, rfl⟩ := H; ((try simp only [Exit.inBlock, Exit.then]); refine bodyPost_ret (results_ct rfl _ _ g1 27 _ (0, 0) _ rfl (S.blk 0 rfl) Tryd.underlying27 rfl (by kernel_rfl)) rfl ?_); exact ⟨_, _, _, _, rfl, Row.nil _, Row.nil _, S.below⟩)
set_option maxHeartbeats 8000000 in
set_option maxRecDepth 100000 in
theorem rat_Add.sc (k : Nat) (A0_0 : Option Addr) (c0_0 : Nat) (l0_0 : List Int) (A0_1 : Option Addr) (c0_1 : Nat) (l0_1 : List Int) (A1_0 : Option Addr) (c1_0 : Nat) (l1_0 : List Int) (A1_1 : Option Addr) (c1_1 : Nat) (l1_1 : List Int) (r0 : List Int) (r1 : List Int) (r2 : Int) (w : World) (h0_0 : Row w A0_0 c0_0 l0_0) (h0_1 : Row w A0_1 c0_1 l0_1) (h1_0 : Row w A1_0 c1_0 l1_0) (h1_1 : Row w A1_1 c1_1 l1_1) (h : Aside0 (rat_Add.f k l0_0 l0_1 l1_0 l1_1 = some (r0, r1, r2))) :
    Calls Tryd.prog 23 #[.agg #[.slice A0_0 l0_0.length c0_0, .slice A0_1 l0_1.length c0_1], .agg #[.slice A1_0 l1_0.length c1_0, .slice A1_1 l1_1.length c1_1]] w fun e w' => ∃ x0 y0 x1 y1, e = .returned (.tuple #[.agg #[.slice x0 r0.length y0, .slice x1 r1.length y1], .int .i64 r2]) ∧ Row w' x0 y0 r0 ∧ Row w' x1 y1 r1 ∧ Below w.heap.size w w' := by
  have S := ((((St.start w).add h1_1).add h1_0).add h0_1).add h0_0
  have H := h.out
  unfold rat_Add.f at H
  clear h h0_0 h0_1 h1_0 h1_1
  go_enter Tryd.func23, Tryd.ntmps23
  all_goals go_wp2_with (first
    | ((with_reducible refine gate_d (N := 2) trivial rfl ?_); (try clear q0); (try clear q1); (try clear q2); (try clear q3); refine ev_box 2 rfl S rfl #[.slice A0_0 l0_0.length c0_0, .slice A0_1 l0_1.length c0_1] 27 ?hr rfl ?_; (case hr => first | (go_simp; done) | (go_simp; rfl)); intro g1 w1_ S)
    | ((with_reducible refine gate_d (N := 3) trivial rfl ?_); (try clear q0); (try clear q1); (try clear q2); (try clear q3); refine ev_box 3 rfl S rfl #[.slice A1_0 l1_0.length c1_0, .slice A1_1 l1_1.length c1_1] 27 ?hr rfl ?_; (case hr => first | (go_simp; done) | (go_simp; rfl)); intro g2 w1_ S)
    | ((with_reducible refine gate_d (N := 4) trivial rfl ?_); (try clear q0); (try clear q1); (try clear q2); (try clear q3); refine ev_box 4 rfl S rfl #[.slice none 0 0, .slice none 0 0] 27 ?hr rfl ?_; (case hr => first | (go_simp; done) | (go_simp; rfl)); intro g3 w1_ S; have q0 := S.cell 2 rfl 0 rfl; have q1 := S.cell 2 rfl 1 rfl; have q2 := S.cell 1 rfl 0 rfl; have q3 := S.cell 1 rfl 1 rfl)
    | ((with_reducible refine gate_d (N := 8) trivial rfl ?_); refine goesL_ (some 8) rfl rfl Tryd.func44 (by kernel_rfl) rfl #[.agg #[.slice A0_0 l0_0.length c0_0, .slice A0_1 l0_1.length c0_1], .agg #[.slice A1_0 l1_0.length c1_0, .slice A1_1 l1_1.length c1_1], .func (.func 46) #[] #[]] rfl EQ ?_; (try clear q0); (try clear q1); (try clear q2); (try clear q3); obtain ⟨⟨t4, t5, t6⟩, H7, H⟩ := bind_p H; dsimp only at H; refine (rat_joined_nat_Add.sc k _ _ l0_0 _ _ l0_1 _ _ l1_0 _ _ l1_1 t4 t5 t6 _ (S.at 0 rfl) (S.at 1 rfl) (S.at 2 rfl) (S.at 3 rfl) H7).mono ?_; rintro _ w1_ ⟨B4, C4, B5, C5, rfl, ut4, ut5, hb⟩; refine ⟨_, rfl, ?_⟩; replace S := ((S.step hb).add ut4).add ut5; clear ut4 ut5 hb H7)
    | ((with_reducible refine gate_s (t := 27) (q := 4) trivial rfl ?_); (try clear q0); (try clear q1); (try clear q2); (try clear q3); refine ev_put2 rfl S rfl rfl 0 rfl 0 (.slice B4 t4.length C4) (.slice B5 t5.length C5) rfl rfl rfl rfl ?hr ?_; (case hr => have z0 := S.cell 0 rfl 0 rfl; have y0 := S.frozen 0 rfl 0; have z1 := S.cell 0 rfl 1 rfl; have y1 := S.frozen 0 rfl 1; first | (go_simp; done) | (go_simp; rfl)); intro w1_ S))
  all_goals first
    | (have _p := trivial; simp only [Option.some.injEq, Prod.mk.injEq] at H; obtain ⟨rfl, rfl, rfl⟩ := H; ((try simp only [Exit.inBlock, Exit.then]); refine bodyPost_ret (results_ct rfl _ _ g3 27 _ (0, 0) _ rfl (S.blk 0 rfl) Tryd.underlying27 rfl (by kernel_rfl)) rfl ?_); exact ⟨_, _, _, _, rfl, S.at 1 rfl, S.at 0 rfl, S.below⟩)
set_option maxHeartbeats 8000000 in
set_option maxRecDepth 100000 in
theorem rat_Sub.sc (k : Nat) (A0_0 : Option Addr) (c0_0 : Nat) (l0_0 : List Int) (A0_1 : Option Addr) (c0_1 : Nat) (l0_1 : List Int) (A1_0 : Option Addr) (c1_0 : Nat) (l1_0 : List Int) (A1_1 : Option Addr) (c1_1 : Nat) (l1_1 : List Int) (r0 : List Int) (r1 : List Int) (r2 : Int) (w : World) (h0_0 : Row w A0_0 c0_0 l0_0) (h0_1 : Row w A0_1 c0_1 l0_1) (h1_0 : Row w A1_0 c1_0 l1_0) (h1_1 : Row w A1_1 c1_1 l1_1) (h : Aside0 (rat_Sub.f k l0_0 l0_1 l1_0 l1_1 = some (r0, r1, r2))) :
    Calls Tryd.prog 21 #[.agg #[.slice A0_0 l0_0.length c0_0, .slice A0_1 l0_1.length c0_1], .agg #[.slice A1_0 l1_0.length c1_0, .slice A1_1 l1_1.length c1_1]] w fun e w' => ∃ x0 y0 x1 y1, e = .returned (.tuple #[.agg #[.slice x0 r0.length y0, .slice x1 r1.length y1], .int .i64 r2]) ∧ Row w' x0 y0 r0 ∧ Row w' x1 y1 r1 ∧ Below w.heap.size w w' := by
  have S := ((((St.start w).add h1_1).add h1_0).add h0_1).add h0_0
  have H := h.out
  unfold rat_Sub.f at H
  clear h h0_0 h0_1 h1_0 h1_1
  go_enter Tryd.func21, Tryd.ntmps21
  all_goals go_wp2_with (first
    | ((with_reducible refine gate_d (N := 2) trivial rfl ?_); (try clear q0); (try clear q1); (try clear q2); (try clear q3); refine ev_box 2 rfl S rfl #[.slice A0_0 l0_0.length c0_0, .slice A0_1 l0_1.length c0_1] 27 ?hr rfl ?_; (case hr => first | (go_simp; done) | (go_simp; rfl)); intro g1 w1_ S)
    | ((with_reducible refine gate_d (N := 3) trivial rfl ?_); (try clear q0); (try clear q1); (try clear q2); (try clear q3); refine ev_box 3 rfl S rfl #[.slice A1_0 l1_0.length c1_0, .slice A1_1 l1_1.length c1_1] 27 ?hr rfl ?_; (case hr => first | (go_simp; done) | (go_simp; rfl)); intro g2 w1_ S)
    | ((with_reducible refine gate_d (N := 4) trivial rfl ?_); (try clear q0); (try clear q1); (try clear q2); (try clear q3); refine ev_box 4 rfl S rfl #[.slice none 0 0, .slice none 0 0] 27 ?hr rfl ?_; (case hr => first | (go_simp; done) | (go_simp; rfl)); intro g3 w1_ S; have q0 := S.cell 2 rfl 0 rfl; have q1 := S.cell 2 rfl 1 rfl; have q2 := S.cell 1 rfl 0 rfl; have q3 := S.cell 1 rfl 1 rfl)
    | ((with_reducible refine gate_d (N := 8) trivial rfl ?_); refine goesL_ (some 8) rfl rfl Tryd.func44 (by kernel_rfl) rfl #[.agg #[.slice A0_0 l0_0.length c0_0, .slice A0_1 l0_1.length c0_1], .agg #[.slice A1_0 l1_0.length c1_0, .slice A1_1 l1_1.length c1_1], .func (.func 45) #[] #[]] rfl EQ ?_; (try clear q0); (try clear q1); (try clear q2); (try clear q3); obtain ⟨⟨t4, t5, t6⟩, H7, H⟩ := bind_p H; dsimp only at H; refine (rat_joined_nat_Sub.sc k _ _ l0_0 _ _ l0_1 _ _ l1_0 _ _ l1_1 t4 t5 t6 _ (S.at 0 rfl) (S.at 1 rfl) (S.at 2 rfl) (S.at 3 rfl) H7).mono ?_; rintro _ w1_ ⟨B4, C4, B5, C5, rfl, ut4, ut5, hb⟩; refine ⟨_, rfl, ?_⟩; replace S := ((S.step hb).add ut4).add ut5; clear ut4 ut5 hb H7)
    | ((with_reducible refine gate_s (t := 27) (q := 4) trivial rfl ?_); (try clear q0); (try clear q1); (try clear q2); (try clear q3); refine ev_put2 rfl S rfl rfl 0 rfl 0 (.slice B4 t4.length C4) (.slice B5 t5.length C5) rfl rfl rfl rfl ?hr ?_; (case hr => have z0 := S.cell 0 rfl 0 rfl; have y0 := S.frozen 0 rfl 0; have z1 := S.cell 0 rfl 1 rfl; have y1 := S.frozen 0 rfl 1; first | (go_simp; done) | (go_simp; rfl)); intro w1_ S))
  all_goals first
    | (have _p := trivial; simp only [Option.some.injEq, Prod.mk.injEq] at H; obtain ⟨rfl, rfl, rfl⟩ := H; ((try simp only [Exit.inBlock, Exit.then]); refine bodyPost_ret (results_ct rfl _ _ g3 27 _ (0, 0) _ rfl (S.blk 0 rfl) Tryd.underlying27 rfl (by kernel_rfl)) rfl ?_); exact ⟨_, _, _, _, rfl, S.at 1 rfl, S.at 0 rfl, S.below⟩)
set_option maxHeartbeats 8000000 in
set_option maxRecDepth 100000 in
theorem rat_Mul.sc (k : Nat) (A0_0 : Option Addr) (c0_0 : Nat) (l0_0 : List Int) (A0_1 : Option Addr) (c0_1 : Nat) (l0_1 : List Int) (A1_0 : Option Addr) (c1_0 : Nat) (l1_0 : List Int) (A1_1 : Option Addr) (c1_1 : Nat) (l1_1 : List Int) (r0 : List Int) (r1 : List Int) (r2 : Int) (w : World) (h0_0 : Row w A0_0 c0_0 l0_0) (h0_1 : Row w A0_1 c0_1 l0_1) (h1_0 : Row w A1_0 c1_0 l1_0) (h1_1 : Row w A1_1 c1_1 l1_1) (h : Aside0 (rat_Mul.f k l0_0 l0_1 l1_0 l1_1 = some (r0, r1, r2))) :
    Calls Tryd.prog 29 #[.agg #[.slice A0_0 l0_0.length c0_0, .slice A0_1 l0_1.length c0_1], .agg #[.slice A1_0 l1_0.length c1_0, .slice A1_1 l1_1.length c1_1]] w fun e w' => ∃ x0 y0 x1 y1, e = .returned (.tuple #[.agg #[.slice x0 r0.length y0, .slice x1 r1.length y1], .int .i64 r2]) ∧ Row w' x0 y0 r0 ∧ Row w' x1 y1 r1 ∧ Below w.heap.size w w' := by
  have S := ((((St.start w).add h1_1).add h1_0).add h0_1).add h0_0
  have H := h.out
  unfold rat_Mul.f at H
  clear h h0_0 h0_1 h1_0 h1_1
  go_enter Tryd.func29, Tryd.ntmps29
  all_goals go_wp2_with (first
    | ((with_reducible refine gate_d (N := 2) trivial rfl ?_); (try clear q0); (try clear q1); (try clear q2); (try clear q3); refine ev_box 2 rfl S rfl #[.slice A0_0 l0_0.length c0_0, .slice A0_1 l0_1.length c0_1] 27 ?hr rfl ?_; (case hr => first | (go_simp; done) | (go_simp; rfl)); intro g1 w1_ S)
    | ((with_reducible refine gate_d (N := 3) trivial rfl ?_); (try clear q0); (try clear q1); (try clear q2); (try clear q3); refine ev_box 3 rfl S rfl #[.slice A1_0 l1_0.length c1_0, .slice A1_1 l1_1.length c1_1] 27 ?hr rfl ?_; (case hr => first | (go_simp; done) | (go_simp; rfl)); intro g2 w1_ S)
    | ((with_reducible refine gate_d (N := 4) trivial rfl ?_); (try clear q0); (try clear q1); (try clear q2); (try clear q3); refine ev_box 4 rfl S rfl #[.slice none 0 0, .slice none 0 0] 27 ?hr rfl ?_; (case hr => first | (go_simp; done) | (go_simp; rfl)); intro g3 w1_ S; have q0 := S.cell 2 rfl 0 rfl; have q1 := S.cell 2 rfl 1 rfl; have q2 := S.cell 1 rfl 0 rfl; have q3 := S.cell 1 rfl 1 rfl)
    | ((with_reducible refine gate_d (N := 9) trivial rfl ?_); refine goesL_ (some 9) rfl rfl Tryd.func42 (by kernel_rfl) rfl #[.agg #[.slice A0_0 l0_0.length c0_0, .slice A0_1 l0_1.length c0_1], .agg #[.slice A1_0 l1_0.length c1_0, .slice A1_1 l1_1.length c1_1]] rfl EQ ?_; (try clear q0); (try clear q1); (try clear q2); (try clear q3); obtain ⟨t4, H5, H⟩ := bind_p H; refine (rat_both.sc k _ _ l0_0 _ _ l0_1 _ _ l1_0 _ _ l1_1 t4 _ (S.at 0 rfl) (S.at 1 rfl) (S.at 2 rfl) (S.at 3 rfl) H5).mono ?_; rintro _ w1_ ⟨rfl, hb⟩; refine ⟨_, rfl, ?_⟩; replace S := S.step hb; clear  hb H5; have q0 := S.cell 2 rfl 0 rfl; have q1 := S.cell 1 rfl 0 rfl; have q2 := S.cell 2 rfl 1 rfl; have q3 := S.cell 1 rfl 1 rfl; revert H; refine w_eq (fun d6t d6t' => fun H => ?_) (fun d6f d6f' => fun H => ?_))
    | ((with_reducible refine gate_d (N := 22) d6t rfl ?_); refine goesL_ (some 22) rfl rfl Tryd.func47 (by kernel_rfl) rfl #[.slice A0_0 l0_0.length c0_0, .slice A1_0 l1_0.length c1_0, .slice A0_1 l0_1.length c0_1, .slice A1_1 l1_1.length c1_1] rfl EQ ?_; (try clear q0); (try clear q1); (try clear q2); (try clear q3); obtain ⟨⟨t7, t8, t9⟩, H10, H⟩ := bind_p H; dsimp only at H; refine (rat_over.sc k _ _ l0_0 _ _ l1_0 _ _ l0_1 _ _ l1_1 t7 t8 t9 _ (S.at 0 rfl) (S.at 2 rfl) (S.at 1 rfl) (S.at 3 rfl) H10).mono ?_; rintro _ w1_ ⟨B7, C7, B8, C8, rfl, ut7, ut8, hb⟩; refine ⟨_, rfl, ?_⟩; replace S := ((S.step hb).add ut7).add ut8; clear ut7 ut8 hb H10)
    | ((with_reducible refine gate_s (t := 27) (q := 4) d6t rfl ?_); (try clear q0); (try clear q1); (try clear q2); (try clear q3); refine ev_put2 rfl S rfl rfl 0 rfl 0 (.slice B7 t7.length C7) (.slice B8 t8.length C8) rfl rfl rfl rfl ?hr ?_; (case hr => have z0 := S.cell 0 rfl 0 rfl; have y0 := S.frozen 0 rfl 0; have z1 := S.cell 0 rfl 1 rfl; have y1 := S.frozen 0 rfl 1; first | (go_simp; done) | (go_simp; rfl)); intro w1_ S)
    | ((with_reducible refine gate_s (t := 27) (q := 4) d6f rfl ?_); (try clear q0); (try clear q1); (try clear q2); (try clear q3); refine ev_put2 rfl S rfl rfl 0 rfl 0 (.slice none 0 0) (.slice none 0 0) rfl rfl rfl rfl ?hr ?_; (case hr => have z0 := S.cell 0 rfl 0 rfl; have y0 := S.frozen 0 rfl 0; have z1 := S.cell 0 rfl 1 rfl; have y1 := S.frozen 0 rfl 1; first | (go_simp; done) | (go_simp; rfl)); intro w1_ S))
  all_goals first
    | (have _p := d6t; simp only [Option.some.injEq, Prod.mk.injEq] at H; obtain ⟨rfl, rfl, rfl⟩ := H; ((try simp only [Exit.inBlock, Exit.then]); refine bodyPost_ret (results_ct rfl _ _ g3 27 _ (0, 0) _ rfl (S.blk 0 rfl) Tryd.underlying27 rfl (by kernel_rfl)) rfl ?_); exact ⟨_, _, _, _, rfl, S.at 1 rfl, S.at 0 rfl, S.below⟩)
    | (have _p := d6f; simp only [Option.some.injEq, Prod.mk.injEq] at H; obtain ⟨rfl, rfl, rfl⟩ := H; ((try simp only [Exit.inBlock, Exit.then]); refine bodyPost_ret (results_ct rfl _ _ g3 27 _ (0, 0) _ rfl (S.blk 0 rfl) Tryd.underlying27 rfl (by kernel_rfl)) rfl ?_); exact ⟨_, _, _, _, rfl, Row.nil _, Row.nil _, S.below⟩)
set_option maxHeartbeats 8000000 in
set_option maxRecDepth 100000 in
theorem rat_Div.sc (k : Nat) (A0_0 : Option Addr) (c0_0 : Nat) (l0_0 : List Int) (A0_1 : Option Addr) (c0_1 : Nat) (l0_1 : List Int) (A1_0 : Option Addr) (c1_0 : Nat) (l1_0 : List Int) (A1_1 : Option Addr) (c1_1 : Nat) (l1_1 : List Int) (r0 : List Int) (r1 : List Int) (r2 : Int) (w : World) (h0_0 : Row w A0_0 c0_0 l0_0) (h0_1 : Row w A0_1 c0_1 l0_1) (h1_0 : Row w A1_0 c1_0 l1_0) (h1_1 : Row w A1_1 c1_1 l1_1) (h : Aside0 (rat_Div.f k l0_0 l0_1 l1_0 l1_1 = some (r0, r1, r2))) :
    Calls Tryd.prog 24 #[.agg #[.slice A0_0 l0_0.length c0_0, .slice A0_1 l0_1.length c0_1], .agg #[.slice A1_0 l1_0.length c1_0, .slice A1_1 l1_1.length c1_1]] w fun e w' => ∃ x0 y0 x1 y1, e = .returned (.tuple #[.agg #[.slice x0 r0.length y0, .slice x1 r1.length y1], .int .i64 r2]) ∧ Row w' x0 y0 r0 ∧ Row w' x1 y1 r1 ∧ Below w.heap.size w w' := by
  have S := ((((St.start w).add h1_1).add h1_0).add h0_1).add h0_0
  have H := h.out
  unfold rat_Div.f at H
  clear h h0_0 h0_1 h1_0 h1_1
  go_enter Tryd.func24, Tryd.ntmps24
  all_goals go_wp2_with (first
    | ((with_reducible refine gate_d (N := 2) trivial rfl ?_); (try clear q0); (try clear q1); (try clear q2); (try clear q3); refine ev_box 2 rfl S rfl #[.slice A0_0 l0_0.length c0_0, .slice A0_1 l0_1.length c0_1] 27 ?hr rfl ?_; (case hr => first | (go_simp; done) | (go_simp; rfl)); intro g1 w1_ S)
    | ((with_reducible refine gate_d (N := 3) trivial rfl ?_); (try clear q0); (try clear q1); (try clear q2); (try clear q3); refine ev_box 3 rfl S rfl #[.slice A1_0 l1_0.length c1_0, .slice A1_1 l1_1.length c1_1] 27 ?hr rfl ?_; (case hr => first | (go_simp; done) | (go_simp; rfl)); intro g2 w1_ S)
    | ((with_reducible refine gate_d (N := 4) trivial rfl ?_); (try clear q0); (try clear q1); (try clear q2); (try clear q3); refine ev_box 4 rfl S rfl #[.slice none 0 0, .slice none 0 0] 27 ?hr rfl ?_; (case hr => first | (go_simp; done) | (go_simp; rfl)); intro g3 w1_ S; have q0 := S.cell 2 rfl 0 rfl; have q1 := S.cell 2 rfl 1 rfl; have q2 := S.cell 1 rfl 0 rfl; have q3 := S.cell 1 rfl 1 rfl)
    | ((with_reducible refine gate_d (N := 9) trivial rfl ?_); refine goesL_ (some 9) rfl rfl Tryd.func42 (by kernel_rfl) rfl #[.agg #[.slice A0_0 l0_0.length c0_0, .slice A0_1 l0_1.length c0_1], .agg #[.slice A1_0 l1_0.length c1_0, .slice A1_1 l1_1.length c1_1]] rfl EQ ?_; (try clear q0); (try clear q1); (try clear q2); (try clear q3); obtain ⟨t4, H5, H⟩ := bind_p H; refine (rat_both.sc k _ _ l0_0 _ _ l0_1 _ _ l1_0 _ _ l1_1 t4 _ (S.at 0 rfl) (S.at 1 rfl) (S.at 2 rfl) (S.at 3 rfl) H5).mono ?_; rintro _ w1_ ⟨rfl, hb⟩; refine ⟨_, rfl, ?_⟩; replace S := S.step hb; clear  hb H5; have q0 := S.cell 1 rfl 0 rfl; have q1 := S.cell 2 rfl 0 rfl; have q2 := S.cell 1 rfl 1 rfl; have q3 := S.cell 2 rfl 1 rfl; revert H; refine w_eq (fun d6t d6t' => w_len0 (fun d7t d7t' d7t_ => fun H => ?_) (fun d7f d7f' d7f_ => fun H => ?_)) (fun d6f d6f' => fun H => ?_))
    | ((with_reducible refine gate_s (t := 27) (q := 4) d7t rfl ?_); (try clear q0); (try clear q1); (try clear q2); (try clear q3); refine ev_put2 rfl S rfl rfl 0 rfl 0 (.slice none 0 0) (.slice none 0 0) rfl rfl rfl rfl ?hr ?_; (case hr => have z0 := S.cell 0 rfl 0 rfl; have y0 := S.frozen 0 rfl 0; have z1 := S.cell 0 rfl 1 rfl; have y1 := S.frozen 0 rfl 1; first | (go_simp; done) | (go_simp; rfl)); intro w1_ S)
    | ((with_reducible refine gate_d (N := 29) d7f rfl ?_); refine goesL_ (some 29) rfl rfl Tryd.func47 (by kernel_rfl) rfl #[.slice A0_0 l0_0.length c0_0, .slice A1_1 l1_1.length c1_1, .slice A0_1 l0_1.length c0_1, .slice A1_0 l1_0.length c1_0] rfl EQ ?_; (try clear q0); (try clear q1); (try clear q2); (try clear q3); obtain ⟨⟨t8, t9, t10⟩, H11, H⟩ := bind_p H; dsimp only at H; refine (rat_over.sc k _ _ l0_0 _ _ l1_1 _ _ l0_1 _ _ l1_0 t8 t9 t10 _ (S.at 0 rfl) (S.at 3 rfl) (S.at 1 rfl) (S.at 2 rfl) H11).mono ?_; rintro _ w1_ ⟨B8, C8, B9, C9, rfl, ut8, ut9, hb⟩; refine ⟨_, rfl, ?_⟩; replace S := ((S.step hb).add ut8).add ut9; clear ut8 ut9 hb H11)
    | ((with_reducible refine gate_s (t := 27) (q := 4) d7f rfl ?_); (try clear q0); (try clear q1); (try clear q2); (try clear q3); refine ev_put2 rfl S rfl rfl 0 rfl 0 (.slice B8 t8.length C8) (.slice B9 t9.length C9) rfl rfl rfl rfl ?hr ?_; (case hr => have z0 := S.cell 0 rfl 0 rfl; have y0 := S.frozen 0 rfl 0; have z1 := S.cell 0 rfl 1 rfl; have y1 := S.frozen 0 rfl 1; first | (go_simp; done) | (go_simp; rfl)); intro w1_ S)
    | ((with_reducible refine gate_s (t := 27) (q := 4) d6f rfl ?_); (try clear q0); (try clear q1); (try clear q2); (try clear q3); refine ev_put2 rfl S rfl rfl 0 rfl 0 (.slice none 0 0) (.slice none 0 0) rfl rfl rfl rfl ?hr ?_; (case hr => have z0 := S.cell 0 rfl 0 rfl; have y0 := S.frozen 0 rfl 0; have z1 := S.cell 0 rfl 1 rfl; have y1 := S.frozen 0 rfl 1; first | (go_simp; done) | (go_simp; rfl)); intro w1_ S))
  all_goals first
    | (have _p := d7t; simp only [Option.some.injEq, Prod.mk.injEq] at H; obtain ⟨rfl, rfl, rfl⟩ := H; ((try simp only [Exit.inBlock, Exit.then]); refine bodyPost_ret (results_ct rfl _ _ g3 27 _ (0, 0) _ rfl (S.blk 0 rfl) Tryd.underlying27 rfl (by kernel_rfl)) rfl ?_); exact ⟨_, _, _, _, rfl, Row.nil _, Row.nil _, S.below⟩)
    | (have _p := d7f; simp only [Option.some.injEq, Prod.mk.injEq] at H; obtain ⟨rfl, rfl, rfl⟩ := H; ((try simp only [Exit.inBlock, Exit.then]); refine bodyPost_ret (results_ct rfl _ _ g3 27 _ (0, 0) _ rfl (S.blk 0 rfl) Tryd.underlying27 rfl (by kernel_rfl)) rfl ?_); exact ⟨_, _, _, _, rfl, S.at 1 rfl, S.at 0 rfl, S.below⟩)
    | (have _p := d6f; simp only [Option.some.injEq, Prod.mk.injEq] at H; obtain ⟨rfl, rfl, rfl⟩ := H; ((try simp only [Exit.inBlock, Exit.then]); refine bodyPost_ret (results_ct rfl _ _ g3 27 _ (0, 0) _ rfl (S.blk 0 rfl) Tryd.underlying27 rfl (by kernel_rfl)) rfl ?_); exact ⟨_, _, _, _, rfl, Row.nil _, Row.nil _, S.below⟩)
def rat_Text.T3 : Bool × List (List Nat × List Nat) := (true, [([], []), ([0], [0]), ([1], [1]), ([2], [2]), ([], []), ([4], [4]), ([5, 2], [5]), ([3, 6], [3, 6]), ([7, 6, 0, 1, 2, 3, 4, 5, 6, 7], [7])])
def rat_Text.B3 : List Nat := [0, 1, 3, 7, 0, 16, 55, 127, 255]
theorem rat_Text.tab3 : rtab .any (opsOf Tryd.f26 3) = rat_Text.T3 := by kernel_rfl
theorem rat_Text.bits3 : waitsOk rat_Text.T3.2 rat_Text.B3 = true := by kernel_rfl
set_option maxHeartbeats 8000000 in
set_option maxRecDepth 100000 in
theorem rat_Text.sc (k : Nat) (A0_0 : Option Addr) (c0_0 : Nat) (l0_0 : List Int) (A0_1 : Option Addr) (c0_1 : Nat) (l0_1 : List Int) (r0 : ByteArray) (w : World) (h0_0 : Row w A0_0 c0_0 l0_0) (h0_1 : Row w A0_1 c0_1 l0_1) (h : Aside0 (rat_Text.f k l0_0 l0_1 = some r0)) :
    Calls Tryd.prog 26 #[.agg #[.slice A0_0 l0_0.length c0_0, .slice A0_1 l0_1.length c0_1]] w fun e w' => e = .returned (.string r0) ∧ Below w.heap.size w w' := by
  have S := ((St.start w).add h0_1).add h0_0
  have H := h.out
  unfold rat_Text.f at H
  clear h h0_0 h0_1
  go_enter Tryd.func26, Tryd.ntmps26
  all_goals go_wp2_with (first
    | ((with_reducible refine gate_d (N := 1) trivial rfl ?_); (try clear q0); (try clear q1); refine ev_box 1 rfl S rfl #[.slice A0_0 l0_0.length c0_0, .slice A0_1 l0_1.length c0_1] 27 ?hr rfl ?_; (case hr => first | (go_simp; done) | (go_simp; rfl)); intro g1 w1_ S; have q0 := S.cell 0 rfl 0 rfl; have q1 := S.cell 0 rfl 1 rfl)
    | ((with_reducible refine gate_d (N := 4) trivial rfl ?_); refine goesL_ (some 4) rfl rfl Tryd.func18 (by kernel_rfl) rfl #[.agg #[.slice A0_0 l0_0.length c0_0, .slice A0_1 l0_1.length c0_1]] rfl EQ ?_; (try clear q0); (try clear q1); obtain ⟨t2, H3, H⟩ := bind_p H; refine (rat_Right.sc k _ _ l0_0 _ _ l0_1 t2 _ (S.at 0 rfl) (S.at 1 rfl) H3).mono ?_; rintro _ w1_ ⟨rfl, hb⟩; refine ⟨_, rfl, ?_⟩; replace S := S.step hb; clear  hb H3; revert H; refine w_b (fun d4t d4t' => fun H => ?_) (fun d4f d4f' => fun H => ?_))
    | (
      refine gate_w d4t ?_
      (try clear q0); (try clear q1)
      have S := S.drew
      refine start_ (n := 9) (S := fun w' => w'.cell? ⟨g1, 0, none⟩ = some (.slice A0_0 l0_0.length c0_0) ∧ w'.cell? ⟨g1, 1, none⟩ = some (.slice A0_1 l0_1.length c0_1)) (ds := []) #[false, false, false, false, false, false, false, false, false] (by kernel_rfl) rfl rfl ⟨S.cell 0 rfl 0 rfl, S.cell 0 rfl 1 rfl⟩ (fun hHeld => ?_)
      refine with_tabW rat_Text.tab3 rat_Text.bits3 (fun HT_ HW_ => ?_)
      generalize World.drew _ = w1_ at S hHeld ⊢
      refine pure_ (i := 0) (N := some 6) (v := ?_) (a' := ?_) #[true, false, false, false, false, false, false, false, false] rfl rfl (any_of HT_.out (by kernel_rfl)) (fun _ _ _ h => h) (Or.inl ⟨by rfl, ?_⟩) ?_ ?_
      rotate_left
      · intro w'
        go_simp
        try with_reducible rfl
      rotate_left
      · simp only [Act.put, List.setIfInBounds_toArray, List.set_cons_zero, List.set_cons_succ, i64_w, i32_w]
        rfl
      refine pure_ (i := 4) (N := some 10) (v := ?_) (a' := ?_) #[true, false, false, false, true, false, false, false, false] rfl rfl (any_of HT_.out (by kernel_rfl)) (fun _ _ _ h => h) (Or.inl ⟨by rfl, ?_⟩) ?_ ?_
      rotate_left
      · intro w'
        go_simp
        try with_reducible rfl
      rotate_left
      · simp only [Act.put, List.setIfInBounds_toArray, List.set_cons_zero, List.set_cons_succ, i64_w, i32_w]
        rfl
      refine take_ (i := 1) (N := some 7) (v := ?_) (a' := ?_) #[true, true, false, false, true, false, false, false, false] rfl rfl (take_ofW HT_.out HW_.out (by kernel_rfl)) (fun _ _ _ h => h) (Or.inl ⟨by rfl, ?_⟩) hHeld ?_ ?_
      rotate_left
      · rintro w' ⟨s0, s1⟩
        go_simp
        try with_reducible rfl
      rotate_left
      · simp only [Act.put, List.setIfInBounds_toArray, List.set_cons_zero, List.set_cons_succ, i64_w, i32_w]
        rfl
      refine take_ (i := 5) (N := some 11) (v := ?_) (a' := ?_) #[true, true, false, false, true, true, false, false, false] rfl rfl (take_ofW HT_.out HW_.out (by kernel_rfl)) (fun _ _ _ h => h) (Or.inl ⟨by rfl, ?_⟩) hHeld ?_ ?_
      rotate_left
      · rintro w' ⟨s0, s1⟩
        go_simp
        try with_reducible rfl
      rotate_left
      · simp only [Act.put, List.setIfInBounds_toArray, List.set_cons_zero, List.set_cons_succ, i64_w, i32_w]
        rfl
      refine one_ (i := 2) (N := some 8) #[true, true, true, false, true, true, false, false, false] rfl rfl (one_of HT_.out (by kernel_rfl)) (by decide) (fun K hK => ?_)
      refine goes_ Tryd.func49 (by kernel_rfl) rfl #[.slice A0_0 l0_0.length c0_0] (by rfl) rfl rfl EQ ?_
      obtain ⟨t5, H6, H⟩ := bind_p H
      refine (nat_Text.sc k _ _ l0_0 t5 _ (S.at 0 rfl) H6).mono ?_
      rintro _ w1_ ⟨rfl, hb⟩
      refine ⟨_, rfl, ?_⟩
      replace S := S.step hb
      clear  hb H6
      refine hK.out _ _ ⟨S.cell 0 rfl 0 rfl, S.cell 0 rfl 1 rfl⟩ (fun hHeld => ?_)
      clear hK K
      refine norm_ (a' := ?_) ?_ ?_
      rotate_left
      · show Act.put _ (some 8) _ = _
        simp only [Act.put, List.setIfInBounds_toArray, List.set_cons_zero, List.set_cons_succ, i64_w, i32_w]
        rfl
      revert H
      refine w_size (fun z7 z7' => fun H => ?_)
      refine pure_ (i := 3) (N := some 9) (v := ?_) (a' := ?_) #[true, true, true, true, true, true, false, false, false] rfl rfl (any_of HT_.out (by kernel_rfl)) (fun _ _ _ h => h) (Or.inl ⟨by rfl, ?_⟩) ?_ ?_
      rotate_left
      · intro w'
        go_simp
        try with_reducible rfl
      rotate_left
      · simp only [Act.put, List.setIfInBounds_toArray, List.set_cons_zero, List.set_cons_succ, i64_w, i32_w]
        rfl
      refine one_ (i := 6) (N := some 12) #[true, true, true, true, true, true, true, false, false] rfl rfl (one_of HT_.out (by kernel_rfl)) (by decide) (fun K hK => ?_)
      refine goes_ Tryd.func49 (by kernel_rfl) rfl #[.slice A0_1 l0_1.length c0_1] (by rfl) rfl rfl EQ ?_
      obtain ⟨t8, H9, H⟩ := bind_p H
      refine (nat_Text.sc k _ _ l0_1 t8 _ (S.at 1 rfl) H9).mono ?_
      rintro _ w1_ ⟨rfl, hb⟩
      refine ⟨_, rfl, ?_⟩
      replace S := S.step hb
      clear  hb H9
      refine hK.out _ _ ⟨S.cell 0 rfl 0 rfl, S.cell 0 rfl 1 rfl⟩ (fun hHeld => ?_)
      clear hK K
      refine norm_ (a' := ?_) ?_ ?_
      rotate_left
      · show Act.put _ (some 12) _ = _
        simp only [Act.put, List.setIfInBounds_toArray, List.set_cons_zero, List.set_cons_succ, i64_w, i32_w]
        rfl
      revert H
      refine w_size (fun z10 z10' => fun H => ?_)
      refine pure_ (i := 7) (N := some 13) (v := ?_) (a' := ?_) #[true, true, true, true, true, true, true, true, false] rfl rfl (any_of HT_.out (by kernel_rfl)) (fun _ _ _ h => h) (Or.inl ⟨by rfl, ?_⟩) ?_ ?_
      rotate_left
      · intro w'
        go_simp
        try with_reducible rfl
      rotate_left
      · simp only [Act.put, List.setIfInBounds_toArray, List.set_cons_zero, List.set_cons_succ, i64_w, i32_w]
        rfl
      refine pure_ (i := 8) (N := some 2) (v := ?_) (a' := ?_) #[true, true, true, true, true, true, true, true, true] rfl rfl (any_of HT_.out (by kernel_rfl)) (fun _ _ _ h => h) (Or.inl ⟨by rfl, ?_⟩) ?_ ?_
      rotate_left
      · intro w'
        go_simp
        try with_reducible rfl
      rotate_left
      · simp only [Act.put, List.setIfInBounds_toArray, List.set_cons_zero, List.set_cons_succ, i64_w, i32_w]
        rfl
      refine done_ (done_of HT_.out (by kernel_rfl)) ?_))
  all_goals first
    | (have _p := d4t; obtain rfl := Option.some.inj H; go_ret; exact ⟨rfl, S.below⟩)
    | (have _p := d4t; obtain rfl := Option.some.inj H; go_ret; exact ⟨rfl, S.below⟩)
    | (have _p := d4f; obtain rfl := Option.some.inj H; go_ret; exact ⟨rfl, S.below⟩)
end Go.Proofs.YtecbbenfcepohaaDoor.V
