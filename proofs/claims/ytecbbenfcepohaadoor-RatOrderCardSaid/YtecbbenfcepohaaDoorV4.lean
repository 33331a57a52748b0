-- Printed by this session's own program out of the translation.
import Derived.Test.YtecbbenfcepohaaDoorV3
namespace Go.Proofs.YtecbbenfcepohaaDoor.V
open Go.RowKit Go.Proofs.YtecbbenfcepohaaDoor.K Go.Proofs.YtecbbenfcepohaaDoorW.PrintWords Go.Proofs.YtecbbenfcepohaaDoorW.PrintLast Go.Proofs.YtecbbenfcepohaaDoorW.PrintMore Go.Proofs.YtecbbenfcepohaaDoor.RW
set_option linter.unusedVariables false
set_option linter.unusedSimpArgs false
def samphireref03_Do.T2 : Bool × List (List Nat × List Nat) := (true, [([], []), ([0], [0]), ([], []), ([2], [2]), ([1, 3], [1, 3]), ([], []), ([5], [5]), ([], []), ([7], [7]), ([6, 8, 4], [6, 8]), ([4, 9, 0, 1, 2, 3, 4], [4]), ([9, 10, 0, 1, 2, 3, 4, 5, 6, 7, 8, 9, 10], [9])])
def samphireref03_Do.B2 : List Nat := [0, 1, 0, 4, 15, 0, 32, 0, 128, 511, 1023, 2047]
theorem samphireref03_Do.tab2 : rtab .any (opsOf Tryd.f32 2) = samphireref03_Do.T2 := by kernel_rfl
theorem samphireref03_Do.bits2 : waitsOk samphireref03_Do.T2.2 samphireref03_Do.B2 = true := by kernel_rfl
def samphireref03_Do.T6 : Bool × List (List Nat × List Nat) := (true, [([], []), ([0], [0]), ([], []), ([2], [2]), ([1, 3], [1, 3]), ([], []), ([5], [5]), ([], []), ([7], [7]), ([6, 8, 4], [6, 8]), ([4, 9, 0, 1, 2, 3, 4], [4]), ([9, 10, 0, 1, 2, 3, 4, 5, 6, 7, 8, 9, 10], [9])])
def samphireref03_Do.B6 : List Nat := [0, 1, 0, 4, 15, 0, 32, 0, 128, 511, 1023, 2047]
theorem samphireref03_Do.tab6 : rtab .any (opsOf Tryd.f32 6) = samphireref03_Do.T6 := by kernel_rfl
theorem samphireref03_Do.bits6 : waitsOk samphireref03_Do.T6.2 samphireref03_Do.B6 = true := by kernel_rfl
set_option maxHeartbeats 8000000 in
set_option maxRecDepth 100000 in
theorem samphireref03_Do.sc (k : Nat) (a0 : Int) (A1_0 : Option Addr) (c1_0 : Nat) (l1_0 : List Int) (A1_1 : Option Addr) (c1_1 : Nat) (l1_1 : List Int) (A2_0 : Option Addr) (c2_0 : Nat) (l2_0 : List Int) (A2_1 : Option Addr) (c2_1 : Nat) (l2_1 : List Int) (r0 : List Int) (r1 : List Int) (r2 : Int) (w : World) (h1_0 : Row w A1_0 c1_0 l1_0) (h1_1 : Row w A1_1 c1_1 l1_1) (h2_0 : Row w A2_0 c2_0 l2_0) (h2_1 : Row w A2_1 c2_1 l2_1) (h : Aside0 (samphireref03_Do.f k a0 l1_0 l1_1 l2_0 l2_1 = some (r0, r1, r2))) :
    Calls Tryd.prog 32 #[.int .i64 a0, .agg #[.slice A1_0 l1_0.length c1_0, .slice A1_1 l1_1.length c1_1], .agg #[.slice A2_0 l2_0.length c2_0, .slice A2_1 l2_1.length c2_1]] w fun e w' => ∃ x0 y0 x1 y1, e = .returned (.tuple #[.agg #[.slice x0 r0.length y0, .slice x1 r1.length y1], .int .i64 r2]) ∧ Row w' x0 y0 r0 ∧ Row w' x1 y1 r1 ∧ Below w.heap.size w w' := by
  have S := ((((St.start w).add h2_1).add h2_0).add h1_1).add h1_0
  have H := h.out
  unfold samphireref03_Do.f at H
  clear h h1_0 h1_1 h2_0 h2_1
  go_enter Tryd.func32, Tryd.ntmps32
  all_goals go_wp2_with (first
    | ((with_reducible refine gate_d (N := 4) trivial rfl ?_); (try clear q0); (try clear q1); (try clear q2); refine ev_box 4 rfl S rfl #[.slice A1_0 l1_0.length c1_0, .slice A1_1 l1_1.length c1_1] 27 ?hr rfl ?_; (case hr => first | (go_simp; done) | (go_simp; rfl)); intro g1 w1_ S)
    | ((with_reducible refine gate_d (N := 5) trivial rfl ?_); (try clear q0); (try clear q1); (try clear q2); refine ev_box 5 rfl S rfl #[.slice A2_0 l2_0.length c2_0, .slice A2_1 l2_1.length c2_1] 27 ?hr rfl ?_; (case hr => first | (go_simp; done) | (go_simp; rfl)); intro g2 w1_ S)
    | ((with_reducible refine gate_d (N := 6) trivial rfl ?_); (try clear q0); (try clear q1); (try clear q2); refine ev_box 6 rfl S rfl #[.slice none 0 0, .slice none 0 0] 27 ?hr rfl ?_; (case hr => first | (go_simp; done) | (go_simp; rfl)); intro g3 w1_ S; revert H; refine w_eq (fun d4t d4t' => fun H => ?_) (fun d4f d4f' => fun H => ?_))
    | (
      refine gate_w d4t ?_
      (try clear q0); (try clear q1); (try clear q2)
      have S := S.drew
      refine start_ (n := 12) (S := fun w' => w'.cell? ⟨g1, 0, none⟩ = some (.slice A1_0 l1_0.length c1_0) ∧ w'.cell? ⟨g2, 0, none⟩ = some (.slice A2_0 l2_0.length c2_0) ∧ w'.cell? ⟨g1, 1, none⟩ = some (.slice A1_1 l1_1.length c1_1) ∧ w'.cell? ⟨g2, 1, none⟩ = some (.slice A2_1 l2_1.length c2_1)) (ds := []) #[false, false, false, false, false, false, false, false, false, false, false, false] (by kernel_rfl) rfl rfl ⟨S.cell 2 rfl 0 rfl, S.cell 1 rfl 0 rfl, S.cell 2 rfl 1 rfl, S.cell 1 rfl 1 rfl⟩ (fun hHeld => ?_)
      refine with_tabW samphireref03_Do.tab2 samphireref03_Do.bits2 (fun HT_ HW_ => ?_)
      generalize World.drew _ = w1_ at S hHeld ⊢
      refine pure_ (i := 0) (N := some 16) (v := ?_) (a' := ?_) #[true, false, false, false, false, false, false, false, false, false, false, false] rfl rfl (any_of HT_.out (by kernel_rfl)) (fun _ _ _ h => h) (Or.inl ⟨by rfl, ?_⟩) ?_ ?_
      rotate_left
      · intro w'
        go_simp
        try with_reducible rfl
      rotate_left
      · simp only [Act.put, List.setIfInBounds_toArray, List.set_cons_zero, List.set_cons_succ, i64_w, i32_w]
        rfl
      refine pure_ (i := 2) (N := some 18) (v := ?_) (a' := ?_) #[true, false, true, false, false, false, false, false, false, false, false, false] rfl rfl (any_of HT_.out (by kernel_rfl)) (fun _ _ _ h => h) (Or.inl ⟨by rfl, ?_⟩) ?_ ?_
      rotate_left
      · intro w'
        go_simp
        try with_reducible rfl
      rotate_left
      · simp only [Act.put, List.setIfInBounds_toArray, List.set_cons_zero, List.set_cons_succ, i64_w, i32_w]
        rfl
      refine pure_ (i := 5) (N := some 21) (v := ?_) (a' := ?_) #[true, false, true, false, false, true, false, false, false, false, false, false] rfl rfl (any_of HT_.out (by kernel_rfl)) (fun _ _ _ h => h) (Or.inl ⟨by rfl, ?_⟩) ?_ ?_
      rotate_left
      · intro w'
        go_simp
        try with_reducible rfl
      rotate_left
      · simp only [Act.put, List.setIfInBounds_toArray, List.set_cons_zero, List.set_cons_succ, i64_w, i32_w]
        rfl
      refine pure_ (i := 7) (N := some 23) (v := ?_) (a' := ?_) #[true, false, true, false, false, true, false, true, false, false, false, false] rfl rfl (any_of HT_.out (by kernel_rfl)) (fun _ _ _ h => h) (Or.inl ⟨by rfl, ?_⟩) ?_ ?_
      rotate_left
      · intro w'
        go_simp
        try with_reducible rfl
      rotate_left
      · simp only [Act.put, List.setIfInBounds_toArray, List.set_cons_zero, List.set_cons_succ, i64_w, i32_w]
        rfl
      refine take_ (i := 1) (N := some 17) (v := ?_) (a' := ?_) #[true, true, true, false, false, true, false, true, false, false, false, false] rfl rfl (take_ofW HT_.out HW_.out (by kernel_rfl)) (fun _ _ _ h => h) (Or.inl ⟨by rfl, ?_⟩) hHeld ?_ ?_
      rotate_left
      · rintro w' ⟨s0, s1, s2, s3⟩
        go_simp
        try with_reducible rfl
      rotate_left
      · simp only [Act.put, List.setIfInBounds_toArray, List.set_cons_zero, List.set_cons_succ, i64_w, i32_w]
        rfl
      refine take_ (i := 3) (N := some 19) (v := ?_) (a' := ?_) #[true, true, true, true, false, true, false, true, false, false, false, false] rfl rfl (take_ofW HT_.out HW_.out (by kernel_rfl)) (fun _ _ _ h => h) (Or.inl ⟨by rfl, ?_⟩) hHeld ?_ ?_
      rotate_left
      · rintro w' ⟨s0, s1, s2, s3⟩
        go_simp
        try with_reducible rfl
      rotate_left
      · simp only [Act.put, List.setIfInBounds_toArray, List.set_cons_zero, List.set_cons_succ, i64_w, i32_w]
        rfl
      refine take_ (i := 6) (N := some 22) (v := ?_) (a' := ?_) #[true, true, true, true, false, true, true, true, false, false, false, false] rfl rfl (take_ofW HT_.out HW_.out (by kernel_rfl)) (fun _ _ _ h => h) (Or.inl ⟨by rfl, ?_⟩) hHeld ?_ ?_
      rotate_left
      · rintro w' ⟨s0, s1, s2, s3⟩
        go_simp
        try with_reducible rfl
      rotate_left
      · simp only [Act.put, List.setIfInBounds_toArray, List.set_cons_zero, List.set_cons_succ, i64_w, i32_w]
        rfl
      refine take_ (i := 8) (N := some 24) (v := ?_) (a' := ?_) #[true, true, true, true, false, true, true, true, true, false, false, false] rfl rfl (take_ofW HT_.out HW_.out (by kernel_rfl)) (fun _ _ _ h => h) (Or.inl ⟨by rfl, ?_⟩) hHeld ?_ ?_
      rotate_left
      · rintro w' ⟨s0, s1, s2, s3⟩
        go_simp
        try with_reducible rfl
      rotate_left
      · simp only [Act.put, List.setIfInBounds_toArray, List.set_cons_zero, List.set_cons_succ, i64_w, i32_w]
        rfl
      refine one_ (i := 4) (N := some 20) #[true, true, true, true, true, true, true, true, true, false, false, false] rfl rfl (one_of HT_.out (by kernel_rfl)) (by decide) (fun K hK => ?_)
      refine goes_ Tryd.func25 (by kernel_rfl) rfl #[.slice A1_0 l1_0.length c1_0, .slice A2_0 l2_0.length c2_0] (by rfl) rfl rfl EQ ?_
      obtain ⟨t5, H6, H⟩ := bind_p H
      refine (samphireref02_Mul.sc k _ _ l1_0 _ _ l2_0 t5 _ (S.at 0 rfl) (S.at 2 rfl) H6).mono ?_
      rintro _ w1_ ⟨B5, C5, rfl, ut5, hb⟩
      refine ⟨_, rfl, ?_⟩
      replace S := (S.step hb).add ut5
      clear ut5 hb H6
      refine hK.out _ _ ⟨S.cell 2 rfl 0 rfl, S.cell 1 rfl 0 rfl, S.cell 2 rfl 1 rfl, S.cell 1 rfl 1 rfl⟩ (fun hHeld => ?_)
      clear hK K
      refine norm_ (a' := ?_) ?_ ?_
      rotate_left
      · show Act.put _ (some 20) _ = _
        simp only [Act.put, List.setIfInBounds_toArray, List.set_cons_zero, List.set_cons_succ, i64_w, i32_w]
        rfl
      refine one_ (i := 9) (N := some 25) #[true, true, true, true, true, true, true, true, true, true, false, false] rfl rfl (one_of HT_.out (by kernel_rfl)) (by decide) (fun K hK => ?_)
      refine goes_ Tryd.func25 (by kernel_rfl) rfl #[.slice A1_1 l1_1.length c1_1, .slice A2_1 l2_1.length c2_1] (by rfl) rfl rfl EQ ?_
      obtain ⟨t7, H8, H⟩ := bind_p H
      refine (samphireref02_Mul.sc k _ _ l1_1 _ _ l2_1 t7 _ (S.at 2 rfl) (S.at 4 rfl) H8).mono ?_
      rintro _ w1_ ⟨B7, C7, rfl, ut7, hb⟩
      refine ⟨_, rfl, ?_⟩
      replace S := (S.step hb).add ut7
      clear ut7 hb H8
      refine hK.out _ _ ⟨S.cell 2 rfl 0 rfl, S.cell 1 rfl 0 rfl, S.cell 2 rfl 1 rfl, S.cell 1 rfl 1 rfl⟩ (fun hHeld => ?_)
      clear hK K
      refine norm_ (a' := ?_) ?_ ?_
      rotate_left
      · show Act.put _ (some 25) _ = _
        simp only [Act.put, List.setIfInBounds_toArray, List.set_cons_zero, List.set_cons_succ, i64_w, i32_w]
        rfl
      refine pure_ (i := 10) (N := some 8) (v := ?_) (a' := ?_) #[true, true, true, true, true, true, true, true, true, true, true, false] rfl rfl (any_of HT_.out (by kernel_rfl)) (fun _ _ _ h => h) (Or.inl ⟨by rfl, ?_⟩) ?_ ?_
      rotate_left
      · intro w'
        go_simp
        try with_reducible rfl
      rotate_left
      · simp only [Act.put, List.setIfInBounds_toArray, List.set_cons_zero, List.set_cons_succ, i64_w, i32_w]
        rfl
      refine pure_ (i := 11) (N := some 9) (v := ?_) (a' := ?_) #[true, true, true, true, true, true, true, true, true, true, true, true] rfl rfl (any_of HT_.out (by kernel_rfl)) (fun _ _ _ h => h) (Or.inl ⟨by rfl, ?_⟩) ?_ ?_
      rotate_left
      · intro w'
        go_simp
        try with_reducible rfl
      rotate_left
      · simp only [Act.put, List.setIfInBounds_toArray, List.set_cons_zero, List.set_cons_succ, i64_w, i32_w]
        rfl
      refine done_ (done_of HT_.out (by kernel_rfl)) ?_)
    | ((with_reducible refine gate_d (N := 28) d4t rfl ?_); refine goesL_ (some 28) rfl rfl Tryd.func50 (by kernel_rfl) rfl #[.slice B5 t5.length C5, .slice B7 t7.length C7, .slice none 0 0] rfl EQ ?_; (try clear q0); (try clear q1); (try clear q2); obtain ⟨t9, H10, H⟩ := bind_p H; refine (samphireref03_big.sc _ _ t5 _ _ t7 _ _ ([] : List Int) t9 _ (S.at 1 rfl) (S.at 0 rfl) (Row.nil _) H10).mono ?_; rintro _ w1_ ⟨rfl, hb⟩; refine ⟨_, rfl, ?_⟩; replace S := S.step hb; clear  hb H10; revert H; refine w_b (fun d11t d11t' => fun H => ?_) (fun d11f d11f' => fun H => ?_))
    | ((with_reducible refine gate_s (t := 27) (q := 6) d11t rfl ?_); (try clear q0); (try clear q1); (try clear q2); refine ev_put2 rfl S rfl rfl 0 rfl 0 (.slice none 0 0) (.slice none 0 0) rfl rfl rfl rfl ?hr ?_; (case hr => have z0 := S.cell 0 rfl 0 rfl; have y0 := S.frozen 0 rfl 0; have z1 := S.cell 0 rfl 1 rfl; have y1 := S.frozen 0 rfl 1; first | (go_simp; done) | (go_simp; rfl)); intro w1_ S)
    | ((with_reducible refine gate_d (N := 32) d11f rfl ?_); refine goesL_ (some 32) rfl rfl Tryd.func17 (by kernel_rfl) rfl #[.slice B5 t5.length C5, .slice B7 t7.length C7] rfl EQ ?_; (try clear q0); (try clear q1); (try clear q2); obtain ⟨⟨t12, t13⟩, H14, H⟩ := bind_p H; dsimp only at H; refine (samphireref03_Reduce.sc k _ _ t5 _ _ t7 t12 t13 _ (S.at 1 rfl) (S.at 0 rfl) H14).mono ?_; rintro _ w1_ ⟨B12, C12, B13, C13, rfl, ut12, ut13, hb⟩; refine ⟨_, rfl, ?_⟩; replace S := ((S.step hb).add ut12).add ut13; clear ut12 ut13 hb H14)
    | ((with_reducible refine gate_s (t := 27) (q := 6) d11f rfl ?_); (try clear q0); (try clear q1); (try clear q2); refine ev_put2 rfl S rfl rfl 0 rfl 0 (.slice B12 t12.length C12) (.slice B13 t13.length C13) rfl rfl rfl rfl ?hr ?_; (case hr => have z0 := S.cell 0 rfl 0 rfl; have y0 := S.frozen 0 rfl 0; have z1 := S.cell 0 rfl 1 rfl; have y1 := S.frozen 0 rfl 1; first | (go_simp; done) | (go_simp; rfl)); intro w1_ S)
    | ((with_reducible refine gate_d (N := 28) d4t rfl ?_); refine goesL_ (some 28) rfl rfl Tryd.func50 (by kernel_rfl) rfl #[.slice B5 t5.length C5, .slice B7 t7.length C7, .slice none 0 0] rfl EQ ?_; (try clear q0); (try clear q1); (try clear q2); obtain ⟨t9, H10, H⟩ := bind_p H; refine (samphireref03_big.sc _ _ t5 _ _ t7 _ _ ([] : List Int) t9 _ (S.at 1 rfl) (S.at 0 rfl) (Row.nil _) H10).mono ?_; rintro _ w1_ ⟨rfl, hb⟩; refine ⟨_, rfl, ?_⟩; replace S := S.step hb; clear  hb H10; revert H; refine w_b (fun d11t d11t' => fun H => ?_) (fun d11f d11f' => fun H => ?_))
    | ((with_reducible refine gate_s (t := 27) (q := 6) d11t rfl ?_); (try clear q0); (try clear q1); (try clear q2); refine ev_put2 rfl S rfl rfl 0 rfl 0 (.slice none 0 0) (.slice none 0 0) rfl rfl rfl rfl ?hr ?_; (case hr => have z0 := S.cell 0 rfl 0 rfl; have y0 := S.frozen 0 rfl 0; have z1 := S.cell 0 rfl 1 rfl; have y1 := S.frozen 0 rfl 1; first | (go_simp; done) | (go_simp; rfl)); intro w1_ S)
    | ((with_reducible refine gate_d (N := 32) d11f rfl ?_); refine goesL_ (some 32) rfl rfl Tryd.func17 (by kernel_rfl) rfl #[.slice B5 t5.length C5, .slice B7 t7.length C7] rfl EQ ?_; (try clear q0); (try clear q1); (try clear q2); obtain ⟨⟨t12, t13⟩, H14, H⟩ := bind_p H; dsimp only at H; refine (samphireref03_Reduce.sc k _ _ t5 _ _ t7 t12 t13 _ (S.at 1 rfl) (S.at 0 rfl) H14).mono ?_; rintro _ w1_ ⟨B12, C12, B13, C13, rfl, ut12, ut13, hb⟩; refine ⟨_, rfl, ?_⟩; replace S := ((S.step hb).add ut12).add ut13; clear ut12 ut13 hb H14)
    | ((with_reducible refine gate_s (t := 27) (q := 6) d11f rfl ?_); (try clear q0); (try clear q1); (try clear q2); refine ev_put2 rfl S rfl rfl 0 rfl 0 (.slice B12 t12.length C12) (.slice B13 t13.length C13) rfl rfl rfl rfl ?hr ?_; (case hr => have z0 := S.cell 0 rfl 0 rfl; have y0 := S.frozen 0 rfl 0; have z1 := S.cell 0 rfl 1 rfl; have y1 := S.frozen 0 rfl 1; first | (go_simp; done) | (go_simp; rfl)); intro w1_ S)
    | (
      refine gate_w d4f ?_
      (try clear q0); (try clear q1); (try clear q2)
      have S := S.drew
      refine start_ (n := 12) (S := fun w' => w'.cell? ⟨g1, 0, none⟩ = some (.slice A1_0 l1_0.length c1_0) ∧ w'.cell? ⟨g2, 1, none⟩ = some (.slice A2_1 l2_1.length c2_1) ∧ w'.cell? ⟨g2, 0, none⟩ = some (.slice A2_0 l2_0.length c2_0) ∧ w'.cell? ⟨g1, 1, none⟩ = some (.slice A1_1 l1_1.length c1_1)) (ds := []) #[false, false, false, false, false, false, false, false, false, false, false, false] (by kernel_rfl) rfl rfl ⟨S.cell 2 rfl 0 rfl, S.cell 1 rfl 1 rfl, S.cell 1 rfl 0 rfl, S.cell 2 rfl 1 rfl⟩ (fun hHeld => ?_)
      refine with_tabW samphireref03_Do.tab6 samphireref03_Do.bits6 (fun HT_ HW_ => ?_)
      generalize World.drew _ = w1_ at S hHeld ⊢
      refine pure_ (i := 0) (N := some 33) (v := ?_) (a' := ?_) #[true, false, false, false, false, false, false, false, false, false, false, false] rfl rfl (any_of HT_.out (by kernel_rfl)) (fun _ _ _ h => h) (Or.inl ⟨by rfl, ?_⟩) ?_ ?_
      rotate_left
      · intro w'
        go_simp
        try with_reducible rfl
      rotate_left
      · simp only [Act.put, List.setIfInBounds_toArray, List.set_cons_zero, List.set_cons_succ, i64_w, i32_w]
        rfl
      refine pure_ (i := 2) (N := some 35) (v := ?_) (a' := ?_) #[true, false, true, false, false, false, false, false, false, false, false, false] rfl rfl (any_of HT_.out (by kernel_rfl)) (fun _ _ _ h => h) (Or.inl ⟨by rfl, ?_⟩) ?_ ?_
      rotate_left
      · intro w'
        go_simp
        try with_reducible rfl
      rotate_left
      · simp only [Act.put, List.setIfInBounds_toArray, List.set_cons_zero, List.set_cons_succ, i64_w, i32_w]
        rfl
      refine pure_ (i := 5) (N := some 38) (v := ?_) (a' := ?_) #[true, false, true, false, false, true, false, false, false, false, false, false] rfl rfl (any_of HT_.out (by kernel_rfl)) (fun _ _ _ h => h) (Or.inl ⟨by rfl, ?_⟩) ?_ ?_
      rotate_left
      · intro w'
        go_simp
        try with_reducible rfl
      rotate_left
      · simp only [Act.put, List.setIfInBounds_toArray, List.set_cons_zero, List.set_cons_succ, i64_w, i32_w]
        rfl
      refine pure_ (i := 7) (N := some 40) (v := ?_) (a' := ?_) #[true, false, true, false, false, true, false, true, false, false, false, false] rfl rfl (any_of HT_.out (by kernel_rfl)) (fun _ _ _ h => h) (Or.inl ⟨by rfl, ?_⟩) ?_ ?_
      rotate_left
      · intro w'
        go_simp
        try with_reducible rfl
      rotate_left
      · simp only [Act.put, List.setIfInBounds_toArray, List.set_cons_zero, List.set_cons_succ, i64_w, i32_w]
        rfl
      refine take_ (i := 1) (N := some 34) (v := ?_) (a' := ?_) #[true, true, true, false, false, true, false, true, false, false, false, false] rfl rfl (take_ofW HT_.out HW_.out (by kernel_rfl)) (fun _ _ _ h => h) (Or.inl ⟨by rfl, ?_⟩) hHeld ?_ ?_
      rotate_left
      · rintro w' ⟨s0, s1, s2, s3⟩
        go_simp
        try with_reducible rfl
      rotate_left
      · simp only [Act.put, List.setIfInBounds_toArray, List.set_cons_zero, List.set_cons_succ, i64_w, i32_w]
        rfl
      refine take_ (i := 3) (N := some 36) (v := ?_) (a' := ?_) #[true, true, true, true, false, true, false, true, false, false, false, false] rfl rfl (take_ofW HT_.out HW_.out (by kernel_rfl)) (fun _ _ _ h => h) (Or.inl ⟨by rfl, ?_⟩) hHeld ?_ ?_
      rotate_left
      · rintro w' ⟨s0, s1, s2, s3⟩
        go_simp
        try with_reducible rfl
      rotate_left
      · simp only [Act.put, List.setIfInBounds_toArray, List.set_cons_zero, List.set_cons_succ, i64_w, i32_w]
        rfl
      refine take_ (i := 6) (N := some 39) (v := ?_) (a' := ?_) #[true, true, true, true, false, true, true, true, false, false, false, false] rfl rfl (take_ofW HT_.out HW_.out (by kernel_rfl)) (fun _ _ _ h => h) (Or.inl ⟨by rfl, ?_⟩) hHeld ?_ ?_
      rotate_left
      · rintro w' ⟨s0, s1, s2, s3⟩
        go_simp
        try with_reducible rfl
      rotate_left
      · simp only [Act.put, List.setIfInBounds_toArray, List.set_cons_zero, List.set_cons_succ, i64_w, i32_w]
        rfl
      refine take_ (i := 8) (N := some 41) (v := ?_) (a' := ?_) #[true, true, true, true, false, true, true, true, true, false, false, false] rfl rfl (take_ofW HT_.out HW_.out (by kernel_rfl)) (fun _ _ _ h => h) (Or.inl ⟨by rfl, ?_⟩) hHeld ?_ ?_
      rotate_left
      · rintro w' ⟨s0, s1, s2, s3⟩
        go_simp
        try with_reducible rfl
      rotate_left
      · simp only [Act.put, List.setIfInBounds_toArray, List.set_cons_zero, List.set_cons_succ, i64_w, i32_w]
        rfl
      refine one_ (i := 4) (N := some 37) #[true, true, true, true, true, true, true, true, true, false, false, false] rfl rfl (one_of HT_.out (by kernel_rfl)) (by decide) (fun K hK => ?_)
      refine goes_ Tryd.func25 (by kernel_rfl) rfl #[.slice A1_0 l1_0.length c1_0, .slice A2_1 l2_1.length c2_1] (by rfl) rfl rfl EQ ?_
      obtain ⟨t15, H16, H⟩ := bind_p H
      refine (samphireref02_Mul.sc k _ _ l1_0 _ _ l2_1 t15 _ (S.at 0 rfl) (S.at 3 rfl) H16).mono ?_
      rintro _ w1_ ⟨B15, C15, rfl, ut15, hb⟩
      refine ⟨_, rfl, ?_⟩
      replace S := (S.step hb).add ut15
      clear ut15 hb H16
      refine hK.out _ _ ⟨S.cell 2 rfl 0 rfl, S.cell 1 rfl 1 rfl, S.cell 1 rfl 0 rfl, S.cell 2 rfl 1 rfl⟩ (fun hHeld => ?_)
      clear hK K
      refine norm_ (a' := ?_) ?_ ?_
      rotate_left
      · show Act.put _ (some 37) _ = _
        simp only [Act.put, List.setIfInBounds_toArray, List.set_cons_zero, List.set_cons_succ, i64_w, i32_w]
        rfl
      refine one_ (i := 9) (N := some 42) #[true, true, true, true, true, true, true, true, true, true, false, false] rfl rfl (one_of HT_.out (by kernel_rfl)) (by decide) (fun K hK => ?_)
      refine goes_ Tryd.func25 (by kernel_rfl) rfl #[.slice A2_0 l2_0.length c2_0, .slice A1_1 l1_1.length c1_1] (by rfl) rfl rfl EQ ?_
      obtain ⟨t17, H18, H⟩ := bind_p H
      refine (samphireref02_Mul.sc k _ _ l2_0 _ _ l1_1 t17 _ (S.at 3 rfl) (S.at 2 rfl) H18).mono ?_
      rintro _ w1_ ⟨B17, C17, rfl, ut17, hb⟩
      refine ⟨_, rfl, ?_⟩
      replace S := (S.step hb).add ut17
      clear ut17 hb H18
      refine hK.out _ _ ⟨S.cell 2 rfl 0 rfl, S.cell 1 rfl 1 rfl, S.cell 1 rfl 0 rfl, S.cell 2 rfl 1 rfl⟩ (fun hHeld => ?_)
      clear hK K
      refine norm_ (a' := ?_) ?_ ?_
      rotate_left
      · show Act.put _ (some 42) _ = _
        simp only [Act.put, List.setIfInBounds_toArray, List.set_cons_zero, List.set_cons_succ, i64_w, i32_w]
        rfl
      refine pure_ (i := 10) (N := some 10) (v := ?_) (a' := ?_) #[true, true, true, true, true, true, true, true, true, true, true, false] rfl rfl (any_of HT_.out (by kernel_rfl)) (fun _ _ _ h => h) (Or.inl ⟨by rfl, ?_⟩) ?_ ?_
      rotate_left
      · intro w'
        go_simp
        try with_reducible rfl
      rotate_left
      · simp only [Act.put, List.setIfInBounds_toArray, List.set_cons_zero, List.set_cons_succ, i64_w, i32_w]
        rfl
      refine pure_ (i := 11) (N := some 11) (v := ?_) (a' := ?_) #[true, true, true, true, true, true, true, true, true, true, true, true] rfl rfl (any_of HT_.out (by kernel_rfl)) (fun _ _ _ h => h) (Or.inl ⟨by rfl, ?_⟩) ?_ ?_
      rotate_left
      · intro w'
        go_simp
        try with_reducible rfl
      rotate_left
      · simp only [Act.put, List.setIfInBounds_toArray, List.set_cons_zero, List.set_cons_succ, i64_w, i32_w]
        rfl
      refine done_ (done_of HT_.out (by kernel_rfl)) ?_
      have q0 := S.cell 1 rfl 0 rfl
      have q1 := S.cell 2 rfl 1 rfl
      have q2 := S.cell 1 rfl 1 rfl
      revert H
      refine w_eq (fun d19t d19t' => w_len0 (fun d20t d20t' d20t_ => fun H => ?_) (fun d20f d20f' d20f_ => fun H => ?_)) (fun d19f d19f' => fun H => ?_))
    | ((with_reducible refine gate_s (t := 27) (q := 6) d20t rfl ?_); (try clear q0); (try clear q1); (try clear q2); refine ev_put2 rfl S rfl rfl 0 rfl 0 (.slice none 0 0) (.slice none 0 0) rfl rfl rfl rfl ?hr ?_; (case hr => have z0 := S.cell 0 rfl 0 rfl; have y0 := S.frozen 0 rfl 0; have z1 := S.cell 0 rfl 1 rfl; have y1 := S.frozen 0 rfl 1; first | (go_simp; done) | (go_simp; rfl)); intro w1_ S)
    | ((with_reducible refine gate_d (N := 52) d20f rfl ?_); refine goesL_ (some 52) rfl rfl Tryd.func50 (by kernel_rfl) rfl #[.slice B15 t15.length C15, .slice B17 t17.length C17, .slice none 0 0] rfl EQ ?_; (try clear q0); (try clear q1); (try clear q2); obtain ⟨t21, H22, H⟩ := bind_p H; refine (samphireref03_big.sc _ _ t15 _ _ t17 _ _ ([] : List Int) t21 _ (S.at 1 rfl) (S.at 0 rfl) (Row.nil _) H22).mono ?_; rintro _ w1_ ⟨rfl, hb⟩; refine ⟨_, rfl, ?_⟩; replace S := S.step hb; clear  hb H22; revert H; refine w_b (fun d23t d23t' => fun H => ?_) (fun d23f d23f' => fun H => ?_))
    | ((with_reducible refine gate_s (t := 27) (q := 6) d23t rfl ?_); (try clear q0); (try clear q1); (try clear q2); refine ev_put2 rfl S rfl rfl 0 rfl 0 (.slice none 0 0) (.slice none 0 0) rfl rfl rfl rfl ?hr ?_; (case hr => have z0 := S.cell 0 rfl 0 rfl; have y0 := S.frozen 0 rfl 0; have z1 := S.cell 0 rfl 1 rfl; have y1 := S.frozen 0 rfl 1; first | (go_simp; done) | (go_simp; rfl)); intro w1_ S)
    | ((with_reducible refine gate_d (N := 56) d23f rfl ?_); refine goesL_ (some 56) rfl rfl Tryd.func17 (by kernel_rfl) rfl #[.slice B15 t15.length C15, .slice B17 t17.length C17] rfl EQ ?_; (try clear q0); (try clear q1); (try clear q2); obtain ⟨⟨t24, t25⟩, H26, H⟩ := bind_p H; dsimp only at H; refine (samphireref03_Reduce.sc k _ _ t15 _ _ t17 t24 t25 _ (S.at 1 rfl) (S.at 0 rfl) H26).mono ?_; rintro _ w1_ ⟨B24, C24, B25, C25, rfl, ut24, ut25, hb⟩; refine ⟨_, rfl, ?_⟩; replace S := ((S.step hb).add ut24).add ut25; clear ut24 ut25 hb H26)
    | ((with_reducible refine gate_s (t := 27) (q := 6) d23f rfl ?_); (try clear q0); (try clear q1); (try clear q2); refine ev_put2 rfl S rfl rfl 0 rfl 0 (.slice B24 t24.length C24) (.slice B25 t25.length C25) rfl rfl rfl rfl ?hr ?_; (case hr => have z0 := S.cell 0 rfl 0 rfl; have y0 := S.frozen 0 rfl 0; have z1 := S.cell 0 rfl 1 rfl; have y1 := S.frozen 0 rfl 1; first | (go_simp; done) | (go_simp; rfl)); intro w1_ S)
    | ((with_reducible refine gate_d (N := 61) d19f rfl ?_); refine goesL_ (some 61) rfl rfl Tryd.func25 (by kernel_rfl) rfl #[.slice A1_1 l1_1.length c1_1, .slice A2_1 l2_1.length c2_1] rfl EQ ?_; (try clear q0); (try clear q1); (try clear q2); obtain ⟨t27, H28, H⟩ := bind_p H; refine (samphireref02_Mul.sc k _ _ l1_1 _ _ l2_1 t27 _ (S.at 3 rfl) (S.at 5 rfl) H28).mono ?_; rintro _ w1_ ⟨B27, C27, rfl, ut27, hb⟩; refine ⟨_, rfl, ?_⟩; replace S := (S.step hb).add ut27; clear ut27 hb H28)
    | ((with_reducible refine gate_d (N := 65) d19f rfl ?_); refine goesL_ (some 65) rfl rfl Tryd.func50 (by kernel_rfl) rfl #[.slice B15 t15.length C15, .slice B17 t17.length C17, .slice B27 t27.length C27] rfl EQ ?_; (try clear q0); (try clear q1); (try clear q2); obtain ⟨t29, H30, H⟩ := bind_p H; refine (samphireref03_big.sc _ _ t15 _ _ t17 _ _ t27 t29 _ (S.at 2 rfl) (S.at 1 rfl) (S.at 0 rfl) H30).mono ?_; rintro _ w1_ ⟨rfl, hb⟩; refine ⟨_, rfl, ?_⟩; replace S := S.step hb; clear  hb H30; revert H; refine w_b (fun d31t d31t' => fun H => ?_) (fun d31f d31f' => w_eq (fun d32t d32t' => fun H => ?_) (fun d32f d32f' => fun H => ?_)))
    | ((with_reducible refine gate_s (t := 27) (q := 6) d31t rfl ?_); (try clear q0); (try clear q1); (try clear q2); refine ev_put2 rfl S rfl rfl 0 rfl 0 (.slice none 0 0) (.slice none 0 0) rfl rfl rfl rfl ?hr ?_; (case hr => have z0 := S.cell 0 rfl 0 rfl; have y0 := S.frozen 0 rfl 0; have z1 := S.cell 0 rfl 1 rfl; have y1 := S.frozen 0 rfl 1; first | (go_simp; done) | (go_simp; rfl)); intro w1_ S)
    | ((with_reducible refine gate_d (N := 71) d32t rfl ?_); refine goesL_ (some 71) rfl rfl Tryd.func51 (by kernel_rfl) rfl #[.slice B15 t15.length C15, .slice B17 t17.length C17] rfl EQ ?_; (try clear q0); (try clear q1); (try clear q2); obtain ⟨t33, H34, H⟩ := bind_p H; refine (samphireref02_Cmp.sc k _ _ t15 _ _ t17 t33 _ (S.at 2 rfl) (S.at 1 rfl) H34).mono ?_; rintro _ w1_ ⟨rfl, hb⟩; refine ⟨_, rfl, ?_⟩; replace S := S.step hb; clear  hb H34; revert H; refine w_lt (fun d35t => fun H => ?_) (fun d35f => fun H => ?_))
    | ((with_reducible refine gate_s (t := 27) (q := 6) d35t rfl ?_); (try clear q0); (try clear q1); (try clear q2); refine ev_put2 rfl S rfl rfl 0 rfl 0 (.slice none 0 0) (.slice none 0 0) rfl rfl rfl rfl ?hr ?_; (case hr => have z0 := S.cell 0 rfl 0 rfl; have y0 := S.frozen 0 rfl 0; have z1 := S.cell 0 rfl 1 rfl; have y1 := S.frozen 0 rfl 1; first | (go_simp; done) | (go_simp; rfl)); intro w1_ S)
    | ((with_reducible refine gate_d (N := 76) d35f rfl ?_); refine goesL_ (some 76) rfl rfl Tryd.func53 (by kernel_rfl) rfl #[.slice B15 t15.length C15, .slice B17 t17.length C17] rfl EQ ?_; (try clear q0); (try clear q1); (try clear q2); obtain ⟨t36, H37, H⟩ := bind_p H; refine (samphireref02_Sub.sc k _ _ t15 _ _ t17 t36 _ (S.at 2 rfl) (S.at 1 rfl) H37).mono ?_; rintro _ w1_ ⟨B36, C36, rfl, ut36, hb⟩; refine ⟨_, rfl, ?_⟩; replace S := (S.step hb).add ut36; clear ut36 hb H37)
    | ((with_reducible refine gate_d (N := 78) d35f rfl ?_); refine goesL_ (some 78) rfl rfl Tryd.func17 (by kernel_rfl) rfl #[.slice B36 t36.length C36, .slice B27 t27.length C27] rfl EQ ?_; (try clear q0); (try clear q1); (try clear q2); obtain ⟨⟨t38, t39⟩, H40, H⟩ := bind_p H; dsimp only at H; refine (samphireref03_Reduce.sc k _ _ t36 _ _ t27 t38 t39 _ (S.at 0 rfl) (S.at 1 rfl) H40).mono ?_; rintro _ w1_ ⟨B38, C38, B39, C39, rfl, ut38, ut39, hb⟩; refine ⟨_, rfl, ?_⟩; replace S := ((S.step hb).add ut38).add ut39; clear ut38 ut39 hb H40)
    | ((with_reducible refine gate_s (t := 27) (q := 6) d35f rfl ?_); (try clear q0); (try clear q1); (try clear q2); refine ev_put2 rfl S rfl rfl 0 rfl 0 (.slice B38 t38.length C38) (.slice B39 t39.length C39) rfl rfl rfl rfl ?hr ?_; (case hr => have z0 := S.cell 0 rfl 0 rfl; have y0 := S.frozen 0 rfl 0; have z1 := S.cell 0 rfl 1 rfl; have y1 := S.frozen 0 rfl 1; first | (go_simp; done) | (go_simp; rfl)); intro w1_ S)
    | ((with_reducible refine gate_d (N := 81) d32f rfl ?_); refine goesL_ (some 81) rfl rfl Tryd.func54 (by kernel_rfl) rfl #[.slice B15 t15.length C15, .slice B17 t17.length C17] rfl EQ ?_; (try clear q0); (try clear q1); (try clear q2); obtain ⟨t41, H42, H⟩ := bind_p H; refine (samphireref02_Add.sc k _ _ t15 _ _ t17 t41 _ (S.at 2 rfl) (S.at 1 rfl) H42).mono ?_; rintro _ w1_ ⟨B41, C41, rfl, ut41, hb⟩; refine ⟨_, rfl, ?_⟩; replace S := (S.step hb).add ut41; clear ut41 hb H42; revert H; refine w_ltl 64 rfl (fun d43t d43t' => fun H => ?_) (fun d43f d43f' => fun H => ?_))
    | ((with_reducible refine gate_s (t := 27) (q := 6) d43t rfl ?_); (try clear q0); (try clear q1); (try clear q2); refine ev_put2 rfl S rfl rfl 0 rfl 0 (.slice none 0 0) (.slice none 0 0) rfl rfl rfl rfl ?hr ?_; (case hr => have z0 := S.cell 0 rfl 0 rfl; have y0 := S.frozen 0 rfl 0; have z1 := S.cell 0 rfl 1 rfl; have y1 := S.frozen 0 rfl 1; first | (go_simp; done) | (go_simp; rfl)); intro w1_ S)
    | ((with_reducible refine gate_d (N := 88) d43f rfl ?_); refine goesL_ (some 88) rfl rfl Tryd.func17 (by kernel_rfl) rfl #[.slice B41 t41.length C41, .slice B27 t27.length C27] rfl EQ ?_; (try clear q0); (try clear q1); (try clear q2); obtain ⟨⟨t44, t45⟩, H46, H⟩ := bind_p H; dsimp only at H; refine (samphireref03_Reduce.sc k _ _ t41 _ _ t27 t44 t45 _ (S.at 0 rfl) (S.at 1 rfl) H46).mono ?_; rintro _ w1_ ⟨B44, C44, B45, C45, rfl, ut44, ut45, hb⟩; refine ⟨_, rfl, ?_⟩; replace S := ((S.step hb).add ut44).add ut45; clear ut44 ut45 hb H46)
    | ((with_reducible refine gate_s (t := 27) (q := 6) d43f rfl ?_); (try clear q0); (try clear q1); (try clear q2); refine ev_put2 rfl S rfl rfl 0 rfl 0 (.slice B44 t44.length C44) (.slice B45 t45.length C45) rfl rfl rfl rfl ?hr ?_; (case hr => have z0 := S.cell 0 rfl 0 rfl; have y0 := S.frozen 0 rfl 0; have z1 := S.cell 0 rfl 1 rfl; have y1 := S.frozen 0 rfl 1; first | (go_simp; done) | (go_simp; rfl)); intro w1_ S)
    | ((with_reducible refine gate_s (t := 27) (q := 6) d20t rfl ?_); (try clear q0); (try clear q1); (try clear q2); refine ev_put2 rfl S rfl rfl 0 rfl 0 (.slice none 0 0) (.slice none 0 0) rfl rfl rfl rfl ?hr ?_; (case hr => have z0 := S.cell 0 rfl 0 rfl; have y0 := S.frozen 0 rfl 0; have z1 := S.cell 0 rfl 1 rfl; have y1 := S.frozen 0 rfl 1; first | (go_simp; done) | (go_simp; rfl)); intro w1_ S)
    | ((with_reducible refine gate_d (N := 52) d20f rfl ?_); refine goesL_ (some 52) rfl rfl Tryd.func50 (by kernel_rfl) rfl #[.slice B15 t15.length C15, .slice B17 t17.length C17, .slice none 0 0] rfl EQ ?_; (try clear q0); (try clear q1); (try clear q2); obtain ⟨t21, H22, H⟩ := bind_p H; refine (samphireref03_big.sc _ _ t15 _ _ t17 _ _ ([] : List Int) t21 _ (S.at 1 rfl) (S.at 0 rfl) (Row.nil _) H22).mono ?_; rintro _ w1_ ⟨rfl, hb⟩; refine ⟨_, rfl, ?_⟩; replace S := S.step hb; clear  hb H22; revert H; refine w_b (fun d23t d23t' => fun H => ?_) (fun d23f d23f' => fun H => ?_))
    | ((with_reducible refine gate_s (t := 27) (q := 6) d23t rfl ?_); (try clear q0); (try clear q1); (try clear q2); refine ev_put2 rfl S rfl rfl 0 rfl 0 (.slice none 0 0) (.slice none 0 0) rfl rfl rfl rfl ?hr ?_; (case hr => have z0 := S.cell 0 rfl 0 rfl; have y0 := S.frozen 0 rfl 0; have z1 := S.cell 0 rfl 1 rfl; have y1 := S.frozen 0 rfl 1; first | (go_simp; done) | (go_simp; rfl)); intro w1_ S)
    | ((with_reducible refine gate_d (N := 56) d23f rfl ?_); refine goesL_ (some 56) rfl rfl Tryd.func17 (by kernel_rfl) rfl #[.slice B15 t15.length C15, .slice B17 t17.length C17] rfl EQ ?_; (try clear q0); (try clear q1); (try clear q2); obtain ⟨⟨t24, t25⟩, H26, H⟩ := bind_p H; dsimp only at H; refine (samphireref03_Reduce.sc k _ _ t15 _ _ t17 t24 t25 _ (S.at 1 rfl) (S.at 0 rfl) H26).mono ?_; rintro _ w1_ ⟨B24, C24, B25, C25, rfl, ut24, ut25, hb⟩; refine ⟨_, rfl, ?_⟩; replace S := ((S.step hb).add ut24).add ut25; clear ut24 ut25 hb H26)
    | ((with_reducible refine gate_s (t := 27) (q := 6) d23f rfl ?_); (try clear q0); (try clear q1); (try clear q2); refine ev_put2 rfl S rfl rfl 0 rfl 0 (.slice B24 t24.length C24) (.slice B25 t25.length C25) rfl rfl rfl rfl ?hr ?_; (case hr => have z0 := S.cell 0 rfl 0 rfl; have y0 := S.frozen 0 rfl 0; have z1 := S.cell 0 rfl 1 rfl; have y1 := S.frozen 0 rfl 1; first | (go_simp; done) | (go_simp; rfl)); intro w1_ S)
    | ((with_reducible refine gate_d (N := 61) d19f rfl ?_); refine goesL_ (some 61) rfl rfl Tryd.func25 (by kernel_rfl) rfl #[.slice A1_1 l1_1.length c1_1, .slice A2_1 l2_1.length c2_1] rfl EQ ?_; (try clear q0); (try clear q1); (try clear q2); obtain ⟨t27, H28, H⟩ := bind_p H; refine (samphireref02_Mul.sc k _ _ l1_1 _ _ l2_1 t27 _ (S.at 3 rfl) (S.at 5 rfl) H28).mono ?_; rintro _ w1_ ⟨B27, C27, rfl, ut27, hb⟩; refine ⟨_, rfl, ?_⟩; replace S := (S.step hb).add ut27; clear ut27 hb H28)
    | ((with_reducible refine gate_d (N := 65) d19f rfl ?_); refine goesL_ (some 65) rfl rfl Tryd.func50 (by kernel_rfl) rfl #[.slice B15 t15.length C15, .slice B17 t17.length C17, .slice B27 t27.length C27] rfl EQ ?_; (try clear q0); (try clear q1); (try clear q2); obtain ⟨t29, H30, H⟩ := bind_p H; refine (samphireref03_big.sc _ _ t15 _ _ t17 _ _ t27 t29 _ (S.at 2 rfl) (S.at 1 rfl) (S.at 0 rfl) H30).mono ?_; rintro _ w1_ ⟨rfl, hb⟩; refine ⟨_, rfl, ?_⟩; replace S := S.step hb; clear  hb H30; revert H; refine w_b (fun d31t d31t' => fun H => ?_) (fun d31f d31f' => w_eq (fun d32t d32t' => fun H => ?_) (fun d32f d32f' => fun H => ?_)))
    | ((with_reducible refine gate_s (t := 27) (q := 6) d31t rfl ?_); (try clear q0); (try clear q1); (try clear q2); refine ev_put2 rfl S rfl rfl 0 rfl 0 (.slice none 0 0) (.slice none 0 0) rfl rfl rfl rfl ?hr ?_; (case hr => have z0 := S.cell 0 rfl 0 rfl; have y0 := S.frozen 0 rfl 0; have z1 := S.cell 0 rfl 1 rfl; have y1 := S.frozen 0 rfl 1; first | (go_simp; done) | (go_simp; rfl)); intro w1_ S)
    | ((with_reducible refine gate_d (N := 71) d32t rfl ?_); refine goesL_ (some 71) rfl rfl Tryd.func51 (by kernel_rfl) rfl #[.slice B15 t15.length C15, .slice B17 t17.length C17] rfl EQ ?_; (try clear q0); (try clear q1); (try clear q2); obtain ⟨t33, H34, H⟩ := bind_p H; refine (samphireref02_Cmp.sc k _ _ t15 _ _ t17 t33 _ (S.at 2 rfl) (S.at 1 rfl) H34).mono ?_; rintro _ w1_ ⟨rfl, hb⟩; refine ⟨_, rfl, ?_⟩; replace S := S.step hb; clear  hb H34; revert H; refine w_lt (fun d35t => fun H => ?_) (fun d35f => fun H => ?_))
    | ((with_reducible refine gate_s (t := 27) (q := 6) d35t rfl ?_); (try clear q0); (try clear q1); (try clear q2); refine ev_put2 rfl S rfl rfl 0 rfl 0 (.slice none 0 0) (.slice none 0 0) rfl rfl rfl rfl ?hr ?_; (case hr => have z0 := S.cell 0 rfl 0 rfl; have y0 := S.frozen 0 rfl 0; have z1 := S.cell 0 rfl 1 rfl; have y1 := S.frozen 0 rfl 1; first | (go_simp; done) | (go_simp; rfl)); intro w1_ S)
    | ((with_reducible refine gate_d (N := 76) d35f rfl ?_); refine goesL_ (some 76) rfl rfl Tryd.func53 (by kernel_rfl) rfl #[.slice B15 t15.length C15, .slice B17 t17.length C17] rfl EQ ?_; (try clear q0); (try clear q1); (try clear q2); obtain ⟨t36, H37, H⟩ := bind_p H; refine (samphireref02_Sub.sc k _ _ t15 _ _ t17 t36 _ (S.at 2 rfl) (S.at 1 rfl) H37).mono ?_; rintro _ w1_ ⟨B36, C36, rfl, ut36, hb⟩; refine ⟨_, rfl, ?_⟩; replace S := (S.step hb).add ut36; clear ut36 hb H37)
    | ((with_reducible refine gate_d (N := 78) d35f rfl ?_); refine goesL_ (some 78) rfl rfl Tryd.func17 (by kernel_rfl) rfl #[.slice B36 t36.length C36, .slice B27 t27.length C27] rfl EQ ?_; (try clear q0); (try clear q1); (try clear q2); obtain ⟨⟨t38, t39⟩, H40, H⟩ := bind_p H; dsimp only at H; refine (samphireref03_Reduce.sc k _ _ t36 _ _ t27 t38 t39 _ (S.at 0 rfl) (S.at 1 rfl) H40).mono ?_; rintro _ w1_ ⟨B38, C38, B39, C39, rfl, ut38, ut39, hb⟩; refine ⟨_, rfl, ?_⟩; replace S := ((S.step hb).add ut38).add ut39; clear ut38 ut39 hb H40)
    | ((with_reducible refine gate_s (t := 27) (q := 6) d35f rfl ?_); (try clear q0); (try clear q1); (try clear q2); refine ev_put2 rfl S rfl rfl 0 rfl 0 (.slice B38 t38.length C38) (.slice B39 t39.length C39) rfl rfl rfl rfl ?hr ?_; (case hr => have z0 := S.cell 0 rfl 0 rfl; have y0 := S.frozen 0 rfl 0; have z1 := S.cell 0 rfl 1 rfl; have y1 := S.frozen 0 rfl 1; first | (go_simp; done) | (go_simp; rfl)); intro w1_ S)
    | ((with_reducible refine gate_d (N := 81) d32f rfl ?_); refine goesL_ (some 81) rfl rfl Tryd.func54 (by kernel_rfl) rfl #[.slice B15 t15.length C15, .slice B17 t17.length C17] rfl EQ ?_; (try clear q0); (try clear q1); (try clear q2); obtain ⟨t41, H42, H⟩ := bind_p H; refine (samphireref02_Add.sc k _ _ t15 _ _ t17 t41 _ (S.at 2 rfl) (S.at 1 rfl) H42).mono ?_; rintro _ w1_ ⟨B41, C41, rfl, ut41, hb⟩; refine ⟨_, rfl, ?_⟩; replace S := (S.step hb).add ut41; clear ut41 hb H42; revert H; refine w_ltl 64 rfl (fun d43t d43t' => fun H => ?_) (fun d43f d43f' => fun H => ?_))
    | ((with_reducible refine gate_s (t := 27) (q := 6) d43t rfl ?_); (try clear q0); (try clear q1); (try clear q2); refine ev_put2 rfl S rfl rfl 0 rfl 0 (.slice none 0 0) (.slice none 0 0) rfl rfl rfl rfl ?hr ?_; (case hr => have z0 := S.cell 0 rfl 0 rfl; have y0 := S.frozen 0 rfl 0; have z1 := S.cell 0 rfl 1 rfl; have y1 := S.frozen 0 rfl 1; first | (go_simp; done) | (go_simp; rfl)); intro w1_ S)
    | ((with_reducible refine gate_d (N := 88) d43f rfl ?_); refine goesL_ (some 88) rfl rfl Tryd.func17 (by kernel_rfl) rfl #[.slice B41 t41.length C41, .slice B27 t27.length C27] rfl EQ ?_; (try clear q0); (try clear q1); (try clear q2); obtain ⟨⟨t44, t45⟩, H46, H⟩ := bind_p H; dsimp only at H; refine (samphireref03_Reduce.sc k _ _ t41 _ _ t27 t44 t45 _ (S.at 0 rfl) (S.at 1 rfl) H46).mono ?_; rintro _ w1_ ⟨B44, C44, B45, C45, rfl, ut44, ut45, hb⟩; refine ⟨_, rfl, ?_⟩; replace S := ((S.step hb).add ut44).add ut45; clear ut44 ut45 hb H46)
    | ((with_reducible refine gate_s (t := 27) (q := 6) d43f rfl ?_); (try clear q0); (try clear q1); (try clear q2); refine ev_put2 rfl S rfl rfl 0 rfl 0 (.slice B44 t44.length C44) (.slice B45 t45.length C45) rfl rfl rfl rfl ?hr ?_; (case hr => have z0 := S.cell 0 rfl 0 rfl; have y0 := S.frozen 0 rfl 0; have z1 := S.cell 0 rfl 1 rfl; have y1 := S.frozen 0 rfl 1; first | (go_simp; done) | (go_simp; rfl)); intro w1_ S))
  all_goals first
    | (have _p := d11t; simp only [Option.some.injEq, Prod.mk.injEq] at H; obtain ⟨rfl, rfl, rfl⟩ := H; ((try simp only [Exit.inBlock, Exit.then]); refine bodyPost_ret (results_ct rfl _ _ g3 27 _ (0, 0) _ rfl (S.blk 0 rfl) Tryd.underlying27 rfl (by kernel_rfl)) rfl ?_); exact ⟨_, _, _, _, rfl, Row.nil _, Row.nil _, S.below⟩)
    | (have _p := d11f; simp only [Option.some.injEq, Prod.mk.injEq] at H; obtain ⟨rfl, rfl, rfl⟩ := H; ((try simp only [Exit.inBlock, Exit.then]); refine bodyPost_ret (results_ct rfl _ _ g3 27 _ (0, 0) _ rfl (S.blk 0 rfl) Tryd.underlying27 rfl (by kernel_rfl)) rfl ?_); exact ⟨_, _, _, _, rfl, S.at 1 rfl, S.at 0 rfl, S.below⟩)
    | (have _p := d11t; simp only [Option.some.injEq, Prod.mk.injEq] at H; obtain ⟨rfl, rfl, rfl⟩ := H; ((try simp only [Exit.inBlock, Exit.then]); refine bodyPost_ret (results_ct rfl _ _ g3 27 _ (0, 0) _ rfl (S.blk 0 rfl) Tryd.underlying27 rfl (by kernel_rfl)) rfl ?_); exact ⟨_, _, _, _, rfl, Row.nil _, Row.nil _, S.below⟩)
    | (have _p := d11f; simp only [Option.some.injEq, Prod.mk.injEq] at H; obtain ⟨rfl, rfl, rfl⟩ := H; ((try simp only [Exit.inBlock, Exit.then]); refine bodyPost_ret (results_ct rfl _ _ g3 27 _ (0, 0) _ rfl (S.blk 0 rfl) Tryd.underlying27 rfl (by kernel_rfl)) rfl ?_); exact ⟨_, _, _, _, rfl, S.at 1 rfl, S.at 0 rfl, S.below⟩)
    | (have _p := d20t; simp only [Option.some.injEq, Prod.mk.injEq] at H; obtain ⟨rfl, rfl, rfl⟩ := H; ((try simp only [Exit.inBlock, Exit.then]); refine bodyPost_ret (results_ct rfl _ _ g3 27 _ (0, 0) _ rfl (S.blk 0 rfl) Tryd.underlying27 rfl (by kernel_rfl)) rfl ?_); exact ⟨_, _, _, _, rfl, Row.nil _, Row.nil _, S.below⟩)
    | (have _p := d23t; simp only [Option.some.injEq, Prod.mk.injEq] at H; obtain ⟨rfl, rfl, rfl⟩ := H; ((try simp only [Exit.inBlock, Exit.then]); refine bodyPost_ret (results_ct rfl _ _ g3 27 _ (0, 0) _ rfl (S.blk 0 rfl) Tryd.underlying27 rfl (by kernel_rfl)) rfl ?_); exact ⟨_, _, _, _, rfl, Row.nil _, Row.nil _, S.below⟩)
    | (have _p := d23f; simp only [Option.some.injEq, Prod.mk.injEq] at H; obtain ⟨rfl, rfl, rfl⟩ := H; ((try simp only [Exit.inBlock, Exit.then]); refine bodyPost_ret (results_ct rfl _ _ g3 27 _ (0, 0) _ rfl (S.blk 0 rfl) Tryd.underlying27 rfl (by kernel_rfl)) rfl ?_); exact ⟨_, _, _, _, rfl, S.at 1 rfl, S.at 0 rfl, S.below⟩)
    | (have _p := d31t; simp only [Option.some.injEq, Prod.mk.injEq] at H; obtain ⟨rfl, rfl, rfl⟩ := H; ((try simp only [Exit.inBlock, Exit.then]); refine bodyPost_ret (results_ct rfl _ _ g3 27 _ (0, 0) _ rfl (S.blk 0 rfl) Tryd.underlying27 rfl (by kernel_rfl)) rfl ?_); exact ⟨_, _, _, _, rfl, Row.nil _, Row.nil _, S.below⟩)
    | (have _p := d35t; simp only [Option.some.injEq, Prod.mk.injEq] at H; obtain ⟨rfl, rfl, rfl⟩ := H; ((try simp only [Exit.inBlock, Exit.then]); refine bodyPost_ret (results_ct rfl _ _ g3 27 _ (0, 0) _ rfl (S.blk 0 rfl) Tryd.underlying27 rfl (by kernel_rfl)) rfl ?_); exact ⟨_, _, _, _, rfl, Row.nil _, Row.nil _, S.below⟩)
    | (have _p := d35f; simp only [Option.some.injEq, Prod.mk.injEq] at H; obtain ⟨rfl, rfl, rfl⟩ := H; ((try simp only [Exit.inBlock, Exit.then]); refine bodyPost_ret (results_ct rfl _ _ g3 27 _ (0, 0) _ rfl (S.blk 0 rfl) Tryd.underlying27 rfl (by kernel_rfl)) rfl ?_); exact ⟨_, _, _, _, rfl, S.at 1 rfl, S.at 0 rfl, S.below⟩)
    | (have _p := d43t; simp only [Option.some.injEq, Prod.mk.injEq] at H; obtain ⟨rfl, rfl, rfl⟩ := H; ((try simp only [Exit.inBlock, Exit.then]); refine bodyPost_ret (results_ct rfl _ _ g3 27 _ (0, 0) _ rfl (S.blk 0 rfl) Tryd.underlying27 rfl (by kernel_rfl)) rfl ?_); exact ⟨_, _, _, _, rfl, Row.nil _, Row.nil _, S.below⟩)
    | (have _p := d43f; simp only [Option.some.injEq, Prod.mk.injEq] at H; obtain ⟨rfl, rfl, rfl⟩ := H; ((try simp only [Exit.inBlock, Exit.then]); refine bodyPost_ret (results_ct rfl _ _ g3 27 _ (0, 0) _ rfl (S.blk 0 rfl) Tryd.underlying27 rfl (by kernel_rfl)) rfl ?_); exact ⟨_, _, _, _, rfl, S.at 1 rfl, S.at 0 rfl, S.below⟩)
    | (have _p := d20t; simp only [Option.some.injEq, Prod.mk.injEq] at H; obtain ⟨rfl, rfl, rfl⟩ := H; ((try simp only [Exit.inBlock, Exit.then]); refine bodyPost_ret (results_ct rfl _ _ g3 27 _ (0, 0) _ rfl (S.blk 0 rfl) Tryd.underlying27 rfl (by kernel_rfl)) rfl ?_); exact ⟨_, _, _, _, rfl, Row.nil _, Row.nil _, S.below⟩)
    | (have _p := d23t; simp only [Option.some.injEq, Prod.mk.injEq] at H; obtain ⟨rfl, rfl, rfl⟩ := H; ((try simp only [Exit.inBlock, Exit.then]); refine bodyPost_ret (results_ct rfl _ _ g3 27 _ (0, 0) _ rfl (S.blk 0 rfl) Tryd.underlying27 rfl (by kernel_rfl)) rfl ?_); exact ⟨_, _, _, _, rfl, Row.nil _, Row.nil _, S.below⟩)
    | (have _p := d23f; simp only [Option.some.injEq, Prod.mk.injEq] at H; obtain ⟨rfl, rfl, rfl⟩ := H; ((try simp only [Exit.inBlock, Exit.then]); refine bodyPost_ret (results_ct rfl _ _ g3 27 _ (0, 0) _ rfl (S.blk 0 rfl) Tryd.underlying27 rfl (by kernel_rfl)) rfl ?_); exact ⟨_, _, _, _, rfl, S.at 1 rfl, S.at 0 rfl, S.below⟩)
    | (have _p := d31t; simp only [Option.some.injEq, Prod.mk.injEq] at H; obtain ⟨rfl, rfl, rfl⟩ := H; ((try simp only [Exit.inBlock, Exit.then]); refine bodyPost_ret (results_ct rfl _ _ g3 27 _ (0, 0) _ rfl (S.blk 0 rfl) Tryd.underlying27 rfl (by kernel_rfl)) rfl ?_); exact ⟨_, _, _, _, rfl, Row.nil _, Row.nil _, S.below⟩)
    | (have _p := d35t; simp only [Option.some.injEq, Prod.mk.injEq] at H; obtain ⟨rfl, rfl, rfl⟩ := H; ((try simp only [Exit.inBlock, Exit.then]); refine bodyPost_ret (results_ct rfl _ _ g3 27 _ (0, 0) _ rfl (S.blk 0 rfl) Tryd.underlying27 rfl (by kernel_rfl)) rfl ?_); exact ⟨_, _, _, _, rfl, Row.nil _, Row.nil _, S.below⟩)
    | (have _p := d35f; simp only [Option.some.injEq, Prod.mk.injEq] at H; obtain ⟨rfl, rfl, rfl⟩ := H; ((try simp only [Exit.inBlock, Exit.then]); refine bodyPost_ret (results_ct rfl _ _ g3 27 _ (0, 0) _ rfl (S.blk 0 rfl) Tryd.underlying27 rfl (by kernel_rfl)) rfl ?_); exact ⟨_, _, _, _, rfl, S.at 1 rfl, S.at 0 rfl, S.below⟩)
    | (have _p := d43t; simp only [Option.some.injEq, Prod.mk.injEq] at H; obtain ⟨rfl, rfl, rfl⟩ := H; ((try simp only [Exit.inBlock, Exit.then]); refine bodyPost_ret (results_ct rfl _ _ g3 27 _ (0, 0) _ rfl (S.blk 0 rfl) Tryd.underlying27 rfl (by kernel_rfl)) rfl ?_); exact ⟨_, _, _, _, rfl, Row.nil _, Row.nil _, S.below⟩)
    | (have _p := d43f; simp only [Option.some.injEq, Prod.mk.injEq] at H; obtain ⟨rfl, rfl, rfl⟩ := H; ((try simp only [Exit.inBlock, Exit.then]); refine bodyPost_ret (results_ct rfl _ _ g3 27 _ (0, 0) _ rfl (S.blk 0 rfl) Tryd.underlying27 rfl (by kernel_rfl)) rfl ?_); exact ⟨_, _, _, _, rfl, S.at 1 rfl, S.at 0 rfl, S.below⟩)
end Go.Proofs.YtecbbenfcepohaaDoor.V
