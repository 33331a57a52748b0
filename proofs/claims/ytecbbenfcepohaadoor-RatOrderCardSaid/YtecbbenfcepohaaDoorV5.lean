-- Printed by this session's own program out of the translation.
import Derived.Test.YtecbbenfcepohaaDoorV4
namespace Go.Proofs.YtecbbenfcepohaaDoor.V
open Go.RowKit Go.Proofs.YtecbbenfcepohaaDoor.K Go.Proofs.YtecbbenfcepohaaDoorW.PrintWords Go.Proofs.YtecbbenfcepohaaDoorW.PrintLast Go.Proofs.YtecbbenfcepohaaDoorW.PrintMore Go.Proofs.YtecbbenfcepohaaDoor.RW
set_option linter.unusedVariables false
set_option linter.unusedSimpArgs false
def samphireref03_Cmp.T1 : Bool × List (List Nat × List Nat) := (true, [([], []), ([0], [0]), ([], []), ([2], [2]), ([1, 3], [1, 3]), ([], []), ([5], [5]), ([], []), ([7], [7]), ([6, 8, 4], [6, 8]), ([4, 9, 0, 1, 2, 3, 4], [4]), ([9, 10, 0, 1, 2, 3, 4, 5, 6, 7, 8, 9, 10], [9])])
def samphireref03_Cmp.B1 : List Nat := [0, 1, 0, 4, 15, 0, 32, 0, 128, 511, 1023, 2047]
theorem samphireref03_Cmp.tab1 : rtab .any (opsOf Tryd.f30 1) = samphireref03_Cmp.T1 := by kernel_rfl
theorem samphireref03_Cmp.bits1 : waitsOk samphireref03_Cmp.T1.2 samphireref03_Cmp.B1 = true := by kernel_rfl
set_option maxHeartbeats 8000000 in
set_option maxRecDepth 100000 in
theorem samphireref03_Cmp.sc (k : Nat) (A0_0 : Option Addr) (c0_0 : Nat) (l0_0 : List Int) (A0_1 : Option Addr) (c0_1 : Nat) (l0_1 : List Int) (A1_0 : Option Addr) (c1_0 : Nat) (l1_0 : List Int) (A1_1 : Option Addr) (c1_1 : Nat) (l1_1 : List Int) (r0 : Int) (r1 : Int) (w : World) (h0_0 : Row w A0_0 c0_0 l0_0) (h0_1 : Row w A0_1 c0_1 l0_1) (h1_0 : Row w A1_0 c1_0 l1_0) (h1_1 : Row w A1_1 c1_1 l1_1) (h : Aside0 (samphireref03_Cmp.f k l0_0 l0_1 l1_0 l1_1 = some (r0, r1))) :
    Calls Tryd.prog 30 #[.agg #[.slice A0_0 l0_0.length c0_0, .slice A0_1 l0_1.length c0_1], .agg #[.slice A1_0 l1_0.length c1_0, .slice A1_1 l1_1.length c1_1]] w fun e w' => e = .returned (.tuple #[.int .i64 r0, .int .i64 r1]) ∧ Below w.heap.size w w' := by
  have S := ((((St.start w).add h1_1).add h1_0).add h0_1).add h0_0
  have H := h.out
  unfold samphireref03_Cmp.f at H
  clear h h0_0 h0_1 h1_0 h1_1
  go_enter Tryd.func30, Tryd.ntmps30
  all_goals go_wp2_with (first
    | ((with_reducible refine gate_d (N := 2) trivial rfl ?_); refine ev_box 2 rfl S rfl #[.slice A0_0 l0_0.length c0_0, .slice A0_1 l0_1.length c0_1] 27 ?hr rfl ?_; (case hr => first | (go_simp; done) | (go_simp; rfl)); intro g1 w1_ S)
    | ((with_reducible refine gate_d (N := 3) trivial rfl ?_); refine ev_box 3 rfl S rfl #[.slice A1_0 l1_0.length c1_0, .slice A1_1 l1_1.length c1_1] 27 ?hr rfl ?_; (case hr => first | (go_simp; done) | (go_simp; rfl)); intro g2 w1_ S)
    | (
      refine gate_w trivial ?_
      have S := S.drew
      refine start_ (n := 12) (S := fun w' => w'.cell? ⟨g1, 0, none⟩ = some (.slice A0_0 l0_0.length c0_0) ∧ w'.cell? ⟨g2, 1, none⟩ = some (.slice A1_1 l1_1.length c1_1) ∧ w'.cell? ⟨g2, 0, none⟩ = some (.slice A1_0 l1_0.length c1_0) ∧ w'.cell? ⟨g1, 1, none⟩ = some (.slice A0_1 l0_1.length c0_1)) (ds := []) #[false, false, false, false, false, false, false, false, false, false, false, false] (by kernel_rfl) rfl rfl ⟨S.cell 1 rfl 0 rfl, S.cell 0 rfl 1 rfl, S.cell 0 rfl 0 rfl, S.cell 1 rfl 1 rfl⟩ (fun hHeld => ?_)
      refine with_tabW samphireref03_Cmp.tab1 samphireref03_Cmp.bits1 (fun HT_ HW_ => ?_)
      generalize World.drew _ = w1_ at S hHeld ⊢
      refine pure_ (i := 0) (N := some 8) (v := ?_) (a' := ?_) #[true, false, false, false, false, false, false, false, false, false, false, false] rfl rfl (any_of HT_.out (by kernel_rfl)) (fun _ _ _ h => h) (Or.inl ⟨by rfl, ?_⟩) ?_ ?_
      rotate_left
      · intro w'
        go_simp
        try with_reducible rfl
      rotate_left
      · simp only [Act.put, List.setIfInBounds_toArray, List.set_cons_zero, List.set_cons_succ, i64_w, i32_w]
        rfl
      refine pure_ (i := 2) (N := some 10) (v := ?_) (a' := ?_) #[true, false, true, false, false, false, false, false, false, false, false, false] rfl rfl (any_of HT_.out (by kernel_rfl)) (fun _ _ _ h => h) (Or.inl ⟨by rfl, ?_⟩) ?_ ?_
      rotate_left
      · intro w'
        go_simp
        try with_reducible rfl
      rotate_left
      · simp only [Act.put, List.setIfInBounds_toArray, List.set_cons_zero, List.set_cons_succ, i64_w, i32_w]
        rfl
      refine pure_ (i := 5) (N := some 13) (v := ?_) (a' := ?_) #[true, false, true, false, false, true, false, false, false, false, false, false] rfl rfl (any_of HT_.out (by kernel_rfl)) (fun _ _ _ h => h) (Or.inl ⟨by rfl, ?_⟩) ?_ ?_
      rotate_left
      · intro w'
        go_simp
        try with_reducible rfl
      rotate_left
      · simp only [Act.put, List.setIfInBounds_toArray, List.set_cons_zero, List.set_cons_succ, i64_w, i32_w]
        rfl
      refine pure_ (i := 7) (N := some 15) (v := ?_) (a' := ?_) #[true, false, true, false, false, true, false, true, false, false, false, false] rfl rfl (any_of HT_.out (by kernel_rfl)) (fun _ _ _ h => h) (Or.inl ⟨by rfl, ?_⟩) ?_ ?_
      rotate_left
      · intro w'
        go_simp
        try with_reducible rfl
      rotate_left
      · simp only [Act.put, List.setIfInBounds_toArray, List.set_cons_zero, List.set_cons_succ, i64_w, i32_w]
        rfl
      refine take_ (i := 1) (N := some 9) (v := ?_) (a' := ?_) #[true, true, true, false, false, true, false, true, false, false, false, false] rfl rfl (take_ofW HT_.out HW_.out (by kernel_rfl)) (fun _ _ _ h => h) (Or.inl ⟨by rfl, ?_⟩) hHeld ?_ ?_
      rotate_left
      · rintro w' ⟨s0, s1, s2, s3⟩
        go_simp
        try with_reducible rfl
      rotate_left
      · simp only [Act.put, List.setIfInBounds_toArray, List.set_cons_zero, List.set_cons_succ, i64_w, i32_w]
        rfl
      refine take_ (i := 3) (N := some 11) (v := ?_) (a' := ?_) #[true, true, true, true, false, true, false, true, false, false, false, false] rfl rfl (take_ofW HT_.out HW_.out (by kernel_rfl)) (fun _ _ _ h => h) (Or.inl ⟨by rfl, ?_⟩) hHeld ?_ ?_
      rotate_left
      · rintro w' ⟨s0, s1, s2, s3⟩
        go_simp
        try with_reducible rfl
      rotate_left
      · simp only [Act.put, List.setIfInBounds_toArray, List.set_cons_zero, List.set_cons_succ, i64_w, i32_w]
        rfl
      refine take_ (i := 6) (N := some 14) (v := ?_) (a' := ?_) #[true, true, true, true, false, true, true, true, false, false, false, false] rfl rfl (take_ofW HT_.out HW_.out (by kernel_rfl)) (fun _ _ _ h => h) (Or.inl ⟨by rfl, ?_⟩) hHeld ?_ ?_
      rotate_left
      · rintro w' ⟨s0, s1, s2, s3⟩
        go_simp
        try with_reducible rfl
      rotate_left
      · simp only [Act.put, List.setIfInBounds_toArray, List.set_cons_zero, List.set_cons_succ, i64_w, i32_w]
        rfl
      refine take_ (i := 8) (N := some 16) (v := ?_) (a' := ?_) #[true, true, true, true, false, true, true, true, true, false, false, false] rfl rfl (take_ofW HT_.out HW_.out (by kernel_rfl)) (fun _ _ _ h => h) (Or.inl ⟨by rfl, ?_⟩) hHeld ?_ ?_
      rotate_left
      · rintro w' ⟨s0, s1, s2, s3⟩
        go_simp
        try with_reducible rfl
      rotate_left
      · simp only [Act.put, List.setIfInBounds_toArray, List.set_cons_zero, List.set_cons_succ, i64_w, i32_w]
        rfl
      refine one_ (i := 4) (N := some 12) #[true, true, true, true, true, true, true, true, true, false, false, false] rfl rfl (one_of HT_.out (by kernel_rfl)) (by decide) (fun K hK => ?_)
      refine goes_ Tryd.func25 (by kernel_rfl) rfl #[.slice A0_0 l0_0.length c0_0, .slice A1_1 l1_1.length c1_1] (by rfl) rfl rfl EQ ?_
      obtain ⟨t3, H4, H⟩ := bind_p H
      refine (samphireref02_Mul.sc k _ _ l0_0 _ _ l1_1 t3 _ (S.at 0 rfl) (S.at 3 rfl) H4).mono ?_
      rintro _ w1_ ⟨B3, C3, rfl, ut3, hb⟩
      refine ⟨_, rfl, ?_⟩
      replace S := (S.step hb).add ut3
      clear ut3 hb H4
      refine hK.out _ _ ⟨S.cell 1 rfl 0 rfl, S.cell 0 rfl 1 rfl, S.cell 0 rfl 0 rfl, S.cell 1 rfl 1 rfl⟩ (fun hHeld => ?_)
      clear hK K
      refine norm_ (a' := ?_) ?_ ?_
      rotate_left
      · show Act.put _ (some 12) _ = _
        simp only [Act.put, List.setIfInBounds_toArray, List.set_cons_zero, List.set_cons_succ, i64_w, i32_w]
        rfl
      refine one_ (i := 9) (N := some 17) #[true, true, true, true, true, true, true, true, true, true, false, false] rfl rfl (one_of HT_.out (by kernel_rfl)) (by decide) (fun K hK => ?_)
      refine goes_ Tryd.func25 (by kernel_rfl) rfl #[.slice A1_0 l1_0.length c1_0, .slice A0_1 l0_1.length c0_1] (by rfl) rfl rfl EQ ?_
      obtain ⟨t5, H6, H⟩ := bind_p H
      refine (samphireref02_Mul.sc k _ _ l1_0 _ _ l0_1 t5 _ (S.at 3 rfl) (S.at 2 rfl) H6).mono ?_
      rintro _ w1_ ⟨B5, C5, rfl, ut5, hb⟩
      refine ⟨_, rfl, ?_⟩
      replace S := (S.step hb).add ut5
      clear ut5 hb H6
      refine hK.out _ _ ⟨S.cell 1 rfl 0 rfl, S.cell 0 rfl 1 rfl, S.cell 0 rfl 0 rfl, S.cell 1 rfl 1 rfl⟩ (fun hHeld => ?_)
      clear hK K
      refine norm_ (a' := ?_) ?_ ?_
      rotate_left
      · show Act.put _ (some 17) _ = _
        simp only [Act.put, List.setIfInBounds_toArray, List.set_cons_zero, List.set_cons_succ, i64_w, i32_w]
        rfl
      refine pure_ (i := 10) (N := some 6) (v := ?_) (a' := ?_) #[true, true, true, true, true, true, true, true, true, true, true, false] rfl rfl (any_of HT_.out (by kernel_rfl)) (fun _ _ _ h => h) (Or.inl ⟨by rfl, ?_⟩) ?_ ?_
      rotate_left
      · intro w'
        go_simp
        try with_reducible rfl
      rotate_left
      · simp only [Act.put, List.setIfInBounds_toArray, List.set_cons_zero, List.set_cons_succ, i64_w, i32_w]
        rfl
      refine pure_ (i := 11) (N := some 7) (v := ?_) (a' := ?_) #[true, true, true, true, true, true, true, true, true, true, true, true] rfl rfl (any_of HT_.out (by kernel_rfl)) (fun _ _ _ h => h) (Or.inl ⟨by rfl, ?_⟩) ?_ ?_
      rotate_left
      · intro w'
        go_simp
        try with_reducible rfl
      rotate_left
      · simp only [Act.put, List.setIfInBounds_toArray, List.set_cons_zero, List.set_cons_succ, i64_w, i32_w]
        rfl
      refine done_ (done_of HT_.out (by kernel_rfl)) ?_)
    | ((with_reducible refine gate_d (N := 20) trivial rfl ?_); refine goesL_ (some 20) rfl rfl Tryd.func50 (by kernel_rfl) rfl #[.slice B3 t3.length C3, .slice B5 t5.length C5, .slice none 0 0] rfl EQ ?_; obtain ⟨t7, H8, H⟩ := bind_p H; refine (samphireref03_big.sc _ _ t3 _ _ t5 _ _ ([] : List Int) t7 _ (S.at 1 rfl) (S.at 0 rfl) (Row.nil _) H8).mono ?_; rintro _ w1_ ⟨rfl, hb⟩; refine ⟨_, rfl, ?_⟩; replace S := S.step hb; clear  hb H8; revert H; refine w_b (fun d9t d9t' => fun H => ?_) (fun d9f d9f' => fun H => ?_))
    | ((with_reducible refine gate_d (N := 23) d9f rfl ?_); refine goesL_ (some 23) rfl rfl Tryd.func51 (by kernel_rfl) rfl #[.slice B3 t3.length C3, .slice B5 t5.length C5] rfl EQ ?_; obtain ⟨t10, H11, H⟩ := bind_p H; refine (samphireref02_Cmp.sc k _ _ t3 _ _ t5 t10 _ (S.at 1 rfl) (S.at 0 rfl) H11).mono ?_; rintro _ w1_ ⟨rfl, hb⟩; refine ⟨_, rfl, ?_⟩; replace S := S.step hb; clear  hb H11)
    | ((with_reducible refine gate_d (N := 20) trivial rfl ?_); refine goesL_ (some 20) rfl rfl Tryd.func50 (by kernel_rfl) rfl #[.slice B3 t3.length C3, .slice B5 t5.length C5, .slice none 0 0] rfl EQ ?_; obtain ⟨t7, H8, H⟩ := bind_p H; refine (samphireref03_big.sc _ _ t3 _ _ t5 _ _ ([] : List Int) t7 _ (S.at 1 rfl) (S.at 0 rfl) (Row.nil _) H8).mono ?_; rintro _ w1_ ⟨rfl, hb⟩; refine ⟨_, rfl, ?_⟩; replace S := S.step hb; clear  hb H8; revert H; refine w_b (fun d9t d9t' => fun H => ?_) (fun d9f d9f' => fun H => ?_))
    | ((with_reducible refine gate_d (N := 23) d9f rfl ?_); refine goesL_ (some 23) rfl rfl Tryd.func51 (by kernel_rfl) rfl #[.slice B3 t3.length C3, .slice B5 t5.length C5] rfl EQ ?_; obtain ⟨t10, H11, H⟩ := bind_p H; refine (samphireref02_Cmp.sc k _ _ t3 _ _ t5 t10 _ (S.at 1 rfl) (S.at 0 rfl) H11).mono ?_; rintro _ w1_ ⟨rfl, hb⟩; refine ⟨_, rfl, ?_⟩; replace S := S.step hb; clear  hb H11))
  all_goals first
    | (have _p := d9t; simp only [Option.some.injEq, Prod.mk.injEq] at H; obtain ⟨rfl, rfl⟩ := H; go_ret2; exact ⟨rfl, S.below⟩)
    | (have _p := d9f; simp only [Option.some.injEq, Prod.mk.injEq] at H; obtain ⟨rfl, rfl⟩ := H; go_ret2; exact ⟨rfl, S.below⟩)
    | (have _p := d9t; simp only [Option.some.injEq, Prod.mk.injEq] at H; obtain ⟨rfl, rfl⟩ := H; go_ret2; exact ⟨rfl, S.below⟩)
    | (have _p := d9f; simp only [Option.some.injEq, Prod.mk.injEq] at H; obtain ⟨rfl, rfl⟩ := H; go_ret2; exact ⟨rfl, S.below⟩)
set_option maxHeartbeats 8000000 in
set_option maxRecDepth 100000 in
theorem samphireref03_Same.sc (k : Nat) (A0_0 : Option Addr) (c0_0 : Nat) (l0_0 : List Int) (A0_1 : Option Addr) (c0_1 : Nat) (l0_1 : List Int) (A1_0 : Option Addr) (c1_0 : Nat) (l1_0 : List Int) (A1_1 : Option Addr) (c1_1 : Nat) (l1_1 : List Int) (r0 : Bool) (w : World) (h0_0 : Row w A0_0 c0_0 l0_0) (h0_1 : Row w A0_1 c0_1 l0_1) (h1_0 : Row w A1_0 c1_0 l1_0) (h1_1 : Row w A1_1 c1_1 l1_1) (h : Aside0 (samphireref03_Same.f k l0_0 l0_1 l1_0 l1_1 = some r0)) :
    Calls Tryd.prog 22 #[.agg #[.slice A0_0 l0_0.length c0_0, .slice A0_1 l0_1.length c0_1], .agg #[.slice A1_0 l1_0.length c1_0, .slice A1_1 l1_1.length c1_1]] w fun e w' => e = .returned (.bool r0) ∧ Below w.heap.size w w' := by
  have S := ((((St.start w).add h1_1).add h1_0).add h0_1).add h0_0
  have H := h.out
  unfold samphireref03_Same.f at H
  clear h h0_0 h0_1 h1_0 h1_1
  go_enter Tryd.func22, Tryd.ntmps22
  all_goals go_wp2_with (first
    | ((with_reducible refine gate_d (N := 2) trivial rfl ?_); (try clear q0); (try clear q1); refine ev_box 2 rfl S rfl #[.slice A0_0 l0_0.length c0_0, .slice A0_1 l0_1.length c0_1] 27 ?hr rfl ?_; (case hr => first | (go_simp; done) | (go_simp; rfl)); intro g1 w1_ S)
    | ((with_reducible refine gate_d (N := 3) trivial rfl ?_); (try clear q0); (try clear q1); refine ev_box 3 rfl S rfl #[.slice A1_0 l1_0.length c1_0, .slice A1_1 l1_1.length c1_1] 27 ?hr rfl ?_; (case hr => first | (go_simp; done) | (go_simp; rfl)); intro g2 w1_ S; have q0 := S.cell 1 rfl 0 rfl; have q1 := S.cell 0 rfl 0 rfl)
    | ((with_reducible refine gate_d (N := 9) trivial rfl ?_); refine goesL_ (some 9) rfl rfl Tryd.func13 (by kernel_rfl) rfl #[.slice A0_0 l0_0.length c0_0, .slice A1_0 l1_0.length c1_0] rfl EQ ?_; (try clear q0); (try clear q1); obtain ⟨t3, H4, H⟩ := bind_p H; refine (samphireref02_Same.sc k _ _ l0_0 _ _ l1_0 t3 _ (S.at 0 rfl) (S.at 2 rfl) H4).mono ?_; rintro _ w1_ ⟨rfl, hb⟩; refine ⟨_, rfl, ?_⟩; replace S := S.step hb; clear  hb H4; have q0 := S.cell 1 rfl 1 rfl; have q1 := S.cell 0 rfl 1 rfl; revert H; refine w_b (fun d5t d5t' => fun H => ?_) (fun d5f d5f' => fun H => ?_))
    | ((with_reducible refine gate_d (N := 15) d5t rfl ?_); (try (refine gate_guard (by rfl) ?_; dsimp only)); refine goesL_ (some 15) rfl rfl Tryd.func13 (by kernel_rfl) rfl #[.slice A0_1 l0_1.length c0_1, .slice A1_1 l1_1.length c1_1] rfl EQ ?_; (try clear q0); (try clear q1); obtain ⟨t6, H7, H⟩ := bind_p H; refine (samphireref02_Same.sc k _ _ l0_1 _ _ l1_1 t6 _ (S.at 1 rfl) (S.at 3 rfl) H7).mono ?_; rintro _ w1_ ⟨rfl, hb⟩; refine ⟨_, rfl, ?_⟩; replace S := S.step hb; clear  hb H7))
  all_goals first
    | (have _p := d5t; obtain rfl := Option.some.inj H; go_ret; exact ⟨rfl, S.below⟩)
    | (have _p := d5f; obtain rfl := Option.some.inj H; go_ret; exact ⟨rfl, S.below⟩)
def samphireref03_Text.T1 : Bool × List (List Nat × List Nat) := (true, [([], []), ([0], [0]), ([1], [1]), ([2], [2]), ([], []), ([4], [4]), ([5, 2], [5]), ([3, 6], [3, 6]), ([7, 6, 0, 1, 2, 3, 4, 5, 6, 7], [7])])
def samphireref03_Text.B1 : List Nat := [0, 1, 3, 7, 0, 16, 55, 127, 255]
theorem samphireref03_Text.tab1 : rtab .any (opsOf Tryd.f31 1) = samphireref03_Text.T1 := by kernel_rfl
theorem samphireref03_Text.bits1 : waitsOk samphireref03_Text.T1.2 samphireref03_Text.B1 = true := by kernel_rfl
set_option maxHeartbeats 8000000 in
set_option maxRecDepth 100000 in
theorem samphireref03_Text.sc (k : Nat) (A0_0 : Option Addr) (c0_0 : Nat) (l0_0 : List Int) (A0_1 : Option Addr) (c0_1 : Nat) (l0_1 : List Int) (r0 : ByteArray) (w : World) (h0_0 : Row w A0_0 c0_0 l0_0) (h0_1 : Row w A0_1 c0_1 l0_1) (h : Aside0 (samphireref03_Text.f k l0_0 l0_1 = some r0)) :
    Calls Tryd.prog 31 #[.agg #[.slice A0_0 l0_0.length c0_0, .slice A0_1 l0_1.length c0_1]] w fun e w' => e = .returned (.string r0) ∧ Below w.heap.size w w' := by
  have S := ((St.start w).add h0_1).add h0_0
  have H := h.out
  unfold samphireref03_Text.f at H
  clear h h0_0 h0_1
  go_enter Tryd.func31, Tryd.ntmps31
  all_goals go_wp2_with (first
    | ((with_reducible refine gate_d (N := 1) trivial rfl ?_); refine ev_box 1 rfl S rfl #[.slice A0_0 l0_0.length c0_0, .slice A0_1 l0_1.length c0_1] 27 ?hr rfl ?_; (case hr => first | (go_simp; done) | (go_simp; rfl)); intro g1 w1_ S)
    | (
      refine gate_w trivial ?_
      have S := S.drew
      refine start_ (n := 9) (S := fun w' => w'.cell? ⟨g1, 0, none⟩ = some (.slice A0_0 l0_0.length c0_0) ∧ w'.cell? ⟨g1, 1, none⟩ = some (.slice A0_1 l0_1.length c0_1)) (ds := []) #[false, false, false, false, false, false, false, false, false] (by kernel_rfl) rfl rfl ⟨S.cell 0 rfl 0 rfl, S.cell 0 rfl 1 rfl⟩ (fun hHeld => ?_)
      refine with_tabW samphireref03_Text.tab1 samphireref03_Text.bits1 (fun HT_ HW_ => ?_)
      generalize World.drew _ = w1_ at S hHeld ⊢
      refine pure_ (i := 0) (N := some 3) (v := ?_) (a' := ?_) #[true, false, false, false, false, false, false, false, false] rfl rfl (any_of HT_.out (by kernel_rfl)) (fun _ _ _ h => h) (Or.inl ⟨by rfl, ?_⟩) ?_ ?_
      rotate_left
      · intro w'
        go_simp
        try with_reducible rfl
      rotate_left
      · simp only [Act.put, List.setIfInBounds_toArray, List.set_cons_zero, List.set_cons_succ, i64_w, i32_w]
        rfl
      refine pure_ (i := 4) (N := some 7) (v := ?_) (a' := ?_) #[true, false, false, false, true, false, false, false, false] rfl rfl (any_of HT_.out (by kernel_rfl)) (fun _ _ _ h => h) (Or.inl ⟨by rfl, ?_⟩) ?_ ?_
      rotate_left
      · intro w'
        go_simp
        try with_reducible rfl
      rotate_left
      · simp only [Act.put, List.setIfInBounds_toArray, List.set_cons_zero, List.set_cons_succ, i64_w, i32_w]
        rfl
      refine take_ (i := 1) (N := some 4) (v := ?_) (a' := ?_) #[true, true, false, false, true, false, false, false, false] rfl rfl (take_ofW HT_.out HW_.out (by kernel_rfl)) (fun _ _ _ h => h) (Or.inl ⟨by rfl, ?_⟩) hHeld ?_ ?_
      rotate_left
      · rintro w' ⟨s0, s1⟩
        go_simp
        try with_reducible rfl
      rotate_left
      · simp only [Act.put, List.setIfInBounds_toArray, List.set_cons_zero, List.set_cons_succ, i64_w, i32_w]
        rfl
      refine take_ (i := 5) (N := some 8) (v := ?_) (a' := ?_) #[true, true, false, false, true, true, false, false, false] rfl rfl (take_ofW HT_.out HW_.out (by kernel_rfl)) (fun _ _ _ h => h) (Or.inl ⟨by rfl, ?_⟩) hHeld ?_ ?_
      rotate_left
      · rintro w' ⟨s0, s1⟩
        go_simp
        try with_reducible rfl
      rotate_left
      · simp only [Act.put, List.setIfInBounds_toArray, List.set_cons_zero, List.set_cons_succ, i64_w, i32_w]
        rfl
      refine one_ (i := 2) (N := some 5) #[true, true, true, false, true, true, false, false, false] rfl rfl (one_of HT_.out (by kernel_rfl)) (by decide) (fun K hK => ?_)
      refine goes_ Tryd.func52 (by kernel_rfl) rfl #[.slice A0_0 l0_0.length c0_0] (by rfl) rfl rfl EQ ?_
      obtain ⟨t2, H3, H⟩ := bind_p H
      refine (samphireref02_Text.sc k _ _ l0_0 t2 _ (S.at 0 rfl) H3).mono ?_
      rintro _ w1_ ⟨rfl, hb⟩
      refine ⟨_, rfl, ?_⟩
      replace S := S.step hb
      clear  hb H3
      refine hK.out _ _ ⟨S.cell 0 rfl 0 rfl, S.cell 0 rfl 1 rfl⟩ (fun hHeld => ?_)
      clear hK K
      refine norm_ (a' := ?_) ?_ ?_
      rotate_left
      · show Act.put _ (some 5) _ = _
        simp only [Act.put, List.setIfInBounds_toArray, List.set_cons_zero, List.set_cons_succ, i64_w, i32_w]
        rfl
      revert H
      refine w_size (fun z4 z4' => fun H => ?_)
      refine pure_ (i := 3) (N := some 6) (v := ?_) (a' := ?_) #[true, true, true, true, true, true, false, false, false] rfl rfl (any_of HT_.out (by kernel_rfl)) (fun _ _ _ h => h) (Or.inl ⟨by rfl, ?_⟩) ?_ ?_
      rotate_left
      · intro w'
        go_simp
        try with_reducible rfl
      rotate_left
      · simp only [Act.put, List.setIfInBounds_toArray, List.set_cons_zero, List.set_cons_succ, i64_w, i32_w]
        rfl
      refine one_ (i := 6) (N := some 9) #[true, true, true, true, true, true, true, false, false] rfl rfl (one_of HT_.out (by kernel_rfl)) (by decide) (fun K hK => ?_)
      refine goes_ Tryd.func52 (by kernel_rfl) rfl #[.slice A0_1 l0_1.length c0_1] (by rfl) rfl rfl EQ ?_
      obtain ⟨t5, H6, H⟩ := bind_p H
      refine (samphireref02_Text.sc k _ _ l0_1 t5 _ (S.at 1 rfl) H6).mono ?_
      rintro _ w1_ ⟨rfl, hb⟩
      refine ⟨_, rfl, ?_⟩
      replace S := S.step hb
      clear  hb H6
      refine hK.out _ _ ⟨S.cell 0 rfl 0 rfl, S.cell 0 rfl 1 rfl⟩ (fun hHeld => ?_)
      clear hK K
      refine norm_ (a' := ?_) ?_ ?_
      rotate_left
      · show Act.put _ (some 9) _ = _
        simp only [Act.put, List.setIfInBounds_toArray, List.set_cons_zero, List.set_cons_succ, i64_w, i32_w]
        rfl
      revert H
      refine w_size (fun z7 z7' => fun H => ?_)
      refine pure_ (i := 7) (N := some 10) (v := ?_) (a' := ?_) #[true, true, true, true, true, true, true, true, false] rfl rfl (any_of HT_.out (by kernel_rfl)) (fun _ _ _ h => h) (Or.inl ⟨by rfl, ?_⟩) ?_ ?_
      rotate_left
      · intro w'
        go_simp
        try with_reducible rfl
      rotate_left
      · simp only [Act.put, List.setIfInBounds_toArray, List.set_cons_zero, List.set_cons_succ, i64_w, i32_w]
        rfl
      refine pure_ (i := 8) (N := some 2) (v := ?_) (a' := ?_) #[true, true, true, true, true, true, true, true, true] rfl rfl (any_of HT_.out (by kernel_rfl)) (fun _ _ _ h => h) (Or.inl ⟨by rfl, ?_⟩) ?_ ?_
      rotate_left
      · intro w'
        go_simp
        try with_reducible rfl
      rotate_left
      · simp only [Act.put, List.setIfInBounds_toArray, List.set_cons_zero, List.set_cons_succ, i64_w, i32_w]
        rfl
      refine done_ (done_of HT_.out (by kernel_rfl)) ?_))
  all_goals first
    | (have _p := trivial; obtain rfl := Option.some.inj H; go_ret; exact ⟨rfl, S.below⟩)
    | (have _p := trivial; obtain rfl := Option.some.inj H; go_ret; exact ⟨rfl, S.below⟩)
set_option maxHeartbeats 8000000 in
set_option maxRecDepth 100000 in
theorem samphirelaw03_told.sc (k : Nat) (A0_0 : Option Addr) (c0_0 : Nat) (l0_0 : List Int) (A0_1 : Option Addr) (c0_1 : Nat) (l0_1 : List Int) (a1 : Int) (A2_0 : Option Addr) (c2_0 : Nat) (l2_0 : List Int) (A2_1 : Option Addr) (c2_1 : Nat) (l2_1 : List Int) (a3 : Int) (r0 : Bool) (w : World) (h0_0 : Row w A0_0 c0_0 l0_0) (h0_1 : Row w A0_1 c0_1 l0_1) (h2_0 : Row w A2_0 c2_0 l2_0) (h2_1 : Row w A2_1 c2_1 l2_1) (h : Aside0 (samphirelaw03_told.f k l0_0 l0_1 a1 l2_0 l2_1 a3 = some r0)) :
    Calls Tryd.prog 16 #[.agg #[.slice A0_0 l0_0.length c0_0, .slice A0_1 l0_1.length c0_1], .int .i64 a1, .agg #[.slice A2_0 l2_0.length c2_0, .slice A2_1 l2_1.length c2_1], .int .i64 a3] w fun e w' => e = .returned (.bool r0) ∧ Below w.heap.size w w' := by
  have S := ((((St.start w).add h2_1).add h2_0).add h0_1).add h0_0
  have H := h.out
  unfold samphirelaw03_told.f at H
  clear h h0_0 h0_1 h2_0 h2_1
  go_enter Tryd.func16, Tryd.ntmps16
  all_goals go_wp2_with (first
    | ((with_reducible refine gate_d (N := 4) trivial rfl ?_); (try clear q0); (try clear q1); (try clear q2); (try clear q3); refine ev_box 4 rfl S rfl #[.slice A0_0 l0_0.length c0_0, .slice A0_1 l0_1.length c0_1] 27 ?hr rfl ?_; (case hr => first | (go_simp; done) | (go_simp; rfl)); intro g1 w1_ S)
    | ((with_reducible refine gate_d (N := 6) trivial rfl ?_); (try clear q0); (try clear q1); (try clear q2); (try clear q3); refine ev_box 6 rfl S rfl #[.slice A2_0 l2_0.length c2_0, .slice A2_1 l2_1.length c2_1] 27 ?hr rfl ?_; (case hr => first | (go_simp; done) | (go_simp; rfl)); intro g2 w1_ S; have q0 := S.cell 1 rfl 0 rfl; have q1 := S.cell 1 rfl 1 rfl; have q2 := S.cell 0 rfl 0 rfl; have q3 := S.cell 0 rfl 1 rfl)
    | ((with_reducible refine gate_d (N := 11) trivial rfl ?_); refine goesL_ (some 11) rfl rfl Tryd.func22 (by kernel_rfl) rfl #[.agg #[.slice A0_0 l0_0.length c0_0, .slice A0_1 l0_1.length c0_1], .agg #[.slice A2_0 l2_0.length c2_0, .slice A2_1 l2_1.length c2_1]] rfl EQ ?_; (try clear q0); (try clear q1); (try clear q2); (try clear q3); obtain ⟨t3, H4, H⟩ := bind_p H; refine (samphireref03_Same.sc k _ _ l0_0 _ _ l0_1 _ _ l2_0 _ _ l2_1 t3 _ (S.at 0 rfl) (S.at 1 rfl) (S.at 2 rfl) (S.at 3 rfl) H4).mono ?_; rintro _ w1_ ⟨rfl, hb⟩; refine ⟨_, rfl, ?_⟩; replace S := S.step hb; clear  hb H4; revert H; refine w_b (fun d5t d5t' => fun H => ?_) (fun d5f d5f' => fun H => ?_)))
  all_goals first
    | (have _p := d5t; obtain rfl := Option.some.inj H; go_ret; exact ⟨rfl, S.below⟩)
    | (have _p := d5f; obtain rfl := Option.some.inj H; go_ret; exact ⟨rfl, S.below⟩)
end Go.Proofs.YtecbbenfcepohaaDoor.V
