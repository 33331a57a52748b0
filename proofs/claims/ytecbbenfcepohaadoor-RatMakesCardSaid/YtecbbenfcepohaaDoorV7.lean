-- Printed by this session's own program out of the translation.
import Derived.Test.YtecbbenfcepohaaDoorV6
namespace Go.Proofs.YtecbbenfcepohaaDoor.V
open Go.RowKit Go.Proofs.YtecbbenfcepohaaDoor.K Go.Proofs.YtecbbenfcepohaaDoorW.PrintWords Go.Proofs.YtecbbenfcepohaaDoorW.PrintLast Go.Proofs.YtecbbenfcepohaaDoorW.PrintMore Go.Proofs.YtecbbenfcepohaaDoor.RW
set_option linter.unusedVariables false
set_option linter.unusedSimpArgs false
def samphirelaw03_RatMakes.T5 : Bool × List (List Nat × List Nat) := (true, [([], []), ([0], [0]), ([], []), ([2], [2]), ([1, 3, 3], [1, 3]), ([4], [4]), ([5, 4], [5]), ([6], [6]), ([7, 6], [6, 7]), ([6], [6]), ([8, 9, 6, 6], [6, 8, 9]), ([10, 6], [6, 10]), ([6, 11], [6, 11])])
def samphirelaw03_RatMakes.B5 : List Nat := [0, 1, 0, 4, 15, 31, 63, 127, 255, 127, 1023, 2047, 4095]
theorem samphirelaw03_RatMakes.tab5 : rtab .any (opsOf Tryd.f3 5) = samphirelaw03_RatMakes.T5 := by kernel_rfl
theorem samphirelaw03_RatMakes.bits5 : waitsOk samphirelaw03_RatMakes.T5.2 samphirelaw03_RatMakes.B5 = true := by kernel_rfl
def samphirelaw03_RatMakes.T11 : Bool × List (List Nat × List Nat) := (true, [([], []), ([], []), ([], []), ([], []), ([2, 3], [2, 3]), ([0, 1, 4, 4], [0, 1, 4]), ([5, 5], [5]), ([6], [6]), ([7, 6, 6], [6, 7]), ([6, 8], [6, 8]), ([9, 8], [9]), ([10, 10], [10]), ([10, 11], [10, 11]), ([12, 11, 0, 1, 2, 3, 4, 5, 6, 7, 8, 9, 10, 11, 12], [12])])
def samphirelaw03_RatMakes.B11 : List Nat := [0, 0, 0, 0, 12, 31, 63, 127, 255, 511, 1023, 2047, 4095, 8191]
theorem samphirelaw03_RatMakes.tab11 : rtab .any (opsOf Tryd.f3 11) = samphirelaw03_RatMakes.T11 := by kernel_rfl
theorem samphirelaw03_RatMakes.bits11 : waitsOk samphirelaw03_RatMakes.T11.2 samphirelaw03_RatMakes.B11 = true := by kernel_rfl
set_option maxHeartbeats 8000000 in
set_option maxRecDepth 100000 in
theorem samphirelaw03_RatMakes.sc (k : Nat) (A0 : Option Addr) (c0 : Nat) (l0 : List Int) (A1 : Option Addr) (c1 : Nat) (l1 : List Int) (a2 : Int) (r0 : Bool) (w : World) (h0 : Row w A0 c0 l0) (h1 : Row w A1 c1 l1) (h : Aside0 (samphirelaw03_RatMakes.f k l0 l1 a2 = some r0)) :
    Calls Tryd.prog 3 #[.slice A0 l0.length c0, .slice A1 l1.length c1, .int .u64 a2] w fun e w' => e = .returned (.bool r0) ∧ Below w.heap.size w w' := by
  have S := ((St.start w).add h1).add h0
  have H := h.out
  unfold samphirelaw03_RatMakes.f at H
  clear h h0 h1
  revert H
  refine w_ltl 70 rfl (fun d1t d1t' => fun H => ?_) (fun d1f d1f' => w_ltl 70 rfl (fun d4t d4t' => fun H => ?_) (fun d4f d4f' => fun H => ?_))
  all_goals (go_enter Tryd.func3, Tryd.ntmps3)
  all_goals go_wp2_with (first
    | ((with_reducible refine gate_d (N := 18) d1t rfl ?_); refine goesL_ (some 18) rfl rfl Tryd.func10 (by kernel_rfl) rfl #[] rfl EQ ?_; (try clear q0); (try clear q1); obtain ⟨t2, H3, H⟩ := bind_p H; refine (samphirelaw03_awake.sc k t2 _ H3).mono ?_; rintro _ w1_ ⟨rfl, hb⟩; refine ⟨_, rfl, ?_⟩; replace S := S.step hb; clear  hb H3)
    | ((with_reducible refine gate_d (N := 18) d4t rfl ?_); refine goesL_ (some 18) rfl rfl Tryd.func10 (by kernel_rfl) rfl #[] rfl EQ ?_; (try clear q0); (try clear q1); obtain ⟨t5, H6, H⟩ := bind_p H; refine (samphirelaw03_awake.sc k t5 _ H6).mono ?_; rintro _ w1_ ⟨rfl, hb⟩; refine ⟨_, rfl, ?_⟩; replace S := S.step hb; clear  hb H6)
    | ((with_reducible refine gate_d (N := 22) d4f rfl ?_); refine goesL_ (some 22) rfl rfl Tryd.func11 (by kernel_rfl) rfl #[.slice A0 l0.length c0, .slice A1 l1.length c1] rfl EQ ?_; (try clear q0); (try clear q1); obtain ⟨⟨t7, t8, t9⟩, H10, H⟩ := bind_p H; dsimp only at H; refine (rat_Make.sc k _ _ l0 _ _ l1 t7 t8 t9 _ (S.at 0 rfl) (S.at 1 rfl) H10).mono ?_; rintro _ w1_ ⟨B7, C7, B8, C8, rfl, ut7, ut8, hb⟩; refine ⟨_, rfl, ?_⟩; replace S := ((S.step hb).add ut7).add ut8; clear ut7 ut8 hb H10)
    | ((with_reducible refine gate_d (N := 7) d4f rfl ?_); (try clear q0); (try clear q1); refine ev_box 7 rfl S rfl #[.slice none 0 0, .slice none 0 0] 27 ?hr rfl ?_; (case hr => first | (go_simp; done) | (go_simp; rfl)); intro g11 w1_ S)
    | ((with_reducible refine gate_s (t := 27) (q := 7) d4f rfl ?_); (try clear q0); (try clear q1); refine ev_put2 rfl S rfl rfl 0 rfl 0 (.slice B7 t7.length C7) (.slice B8 t8.length C8) rfl rfl rfl rfl ?hr ?_; (case hr => have z0 := S.cell 0 rfl 0 rfl; have y0 := S.frozen 0 rfl 0; have z1 := S.cell 0 rfl 1 rfl; have y1 := S.frozen 0 rfl 1; first | (go_simp; done) | (go_simp; rfl)); intro w1_ S)
    | ((with_reducible refine gate_d (N := 26) d4f rfl ?_); refine goesL_ (some 26) rfl rfl Tryd.func12 (by kernel_rfl) rfl #[.int .u64 a2] rfl EQ ?_; (try clear q0); (try clear q1); obtain ⟨⟨t12, t13⟩, H14, H⟩ := bind_p H; dsimp only at H; refine (rat_Whole.sc k a2 t12 t13 _ H14).mono ?_; rintro _ w1_ ⟨B12, C12, B13, C13, rfl, ut12, ut13, hb⟩; refine ⟨_, rfl, ?_⟩; replace S := ((S.step hb).add ut12).add ut13; clear ut12 ut13 hb H14)
    | ((with_reducible refine gate_d (N := 9) d4f rfl ?_); (try clear q0); (try clear q1); refine ev_box 9 rfl S rfl #[.slice none 0 0, .slice none 0 0] 27 ?hr rfl ?_; (case hr => first | (go_simp; done) | (go_simp; rfl)); intro g15 w1_ S)
    | ((with_reducible refine gate_s (t := 27) (q := 9) d4f rfl ?_); (try clear q0); (try clear q1); refine ev_put2 rfl S rfl rfl 0 rfl 0 (.slice B12 t12.length C12) (.slice B13 t13.length C13) rfl rfl rfl rfl ?hr ?_; (case hr => have z0 := S.cell 0 rfl 0 rfl; have y0 := S.frozen 0 rfl 0; have z1 := S.cell 0 rfl 1 rfl; have y1 := S.frozen 0 rfl 1; first | (go_simp; done) | (go_simp; rfl)); intro w1_ S)
    | (
      refine gate_w d4f ?_
      (try clear q0); (try clear q1)
      have S := S.drew
      refine start_ (n := 13) (S := fun w' => w'.cell? ⟨g15, 0, none⟩ = some (.slice B12 t12.length C12) ∧ w'.cell? ⟨g15, 1, none⟩ = some (.slice B13 t13.length C13)) (ds := []) #[false, false, false, false, false, false, false, false, false, false, false, false, false] (by kernel_rfl) rfl rfl ⟨S.cell 0 rfl 0 rfl, S.cell 0 rfl 1 rfl⟩ (fun hHeld => ?_)
      refine with_tabW samphirelaw03_RatMakes.tab5 samphirelaw03_RatMakes.bits5 (fun HT_ HW_ => ?_)
      generalize World.drew _ = w1_ at S hHeld ⊢
      refine pure_ (i := 0) (N := some 27) (v := ?_) (a' := ?_) #[true, false, false, false, false, false, false, false, false, false, false, false, false] rfl rfl (any_of HT_.out (by kernel_rfl)) (fun _ _ _ h => h) (Or.inl ⟨by rfl, ?_⟩) ?_ ?_
      rotate_left
      · intro w'
        go_simp
        try with_reducible rfl
      rotate_left
      · simp only [Act.put, List.setIfInBounds_toArray, List.set_cons_zero, List.set_cons_succ, i64_w, i32_w]
        rfl
      refine pure_ (i := 2) (N := some 29) (v := ?_) (a' := ?_) #[true, false, true, false, false, false, false, false, false, false, false, false, false] rfl rfl (any_of HT_.out (by kernel_rfl)) (fun _ _ _ h => h) (Or.inl ⟨by rfl, ?_⟩) ?_ ?_
      rotate_left
      · intro w'
        go_simp
        try with_reducible rfl
      rotate_left
      · simp only [Act.put, List.setIfInBounds_toArray, List.set_cons_zero, List.set_cons_succ, i64_w, i32_w]
        rfl
      refine take_ (i := 1) (N := some 28) (v := ?_) (a' := ?_) #[true, true, true, false, false, false, false, false, false, false, false, false, false] rfl rfl (take_ofW HT_.out HW_.out (by kernel_rfl)) (fun _ _ _ h => h) (Or.inl ⟨by rfl, ?_⟩) hHeld ?_ ?_
      rotate_left
      · rintro w' ⟨s0, s1⟩
        go_simp
        try with_reducible rfl
      rotate_left
      · simp only [Act.put, List.setIfInBounds_toArray, List.set_cons_zero, List.set_cons_succ, i64_w, i32_w]
        rfl
      refine one_ (i := 3) (N := some 30) #[true, true, true, true, false, false, false, false, false, false, false, false, false] rfl rfl (one_of HT_.out (by kernel_rfl)) (by decide) (fun K hK => ?_)
      refine goes_ Tryd.func14 (by kernel_rfl) rfl #[.int .u64 a2] (by rfl) rfl rfl EQ ?_
      obtain ⟨t16, H17, H⟩ := bind_p H
      refine (samphireref02_Of.sc k a2 t16 _ H17).mono ?_
      rintro _ w1_ ⟨B16, C16, rfl, ut16, hb⟩
      refine ⟨_, rfl, ?_⟩
      replace S := (S.step hb).add ut16
      clear ut16 hb H17
      refine hK.out _ _ ⟨S.cell 0 rfl 0 rfl, S.cell 0 rfl 1 rfl⟩ (fun hHeld => ?_)
      clear hK K
      refine norm_ (a' := ?_) ?_ ?_
      rotate_left
      · show Act.put _ (some 30) _ = _
        simp only [Act.put, List.setIfInBounds_toArray, List.set_cons_zero, List.set_cons_succ, i64_w, i32_w]
        rfl
      refine one_ (i := 4) (N := some 31) #[true, true, true, true, true, false, false, false, false, false, false, false, false] rfl rfl (one_of HT_.out (by kernel_rfl)) (by decide) (fun K hK => ?_)
      refine goes_ Tryd.func13 (by kernel_rfl) rfl #[.slice B12 t12.length C12, .slice B16 t16.length C16] (by rfl) rfl rfl EQ ?_
      obtain ⟨t18, H19, H⟩ := bind_p H
      refine (samphireref02_Same.sc k _ _ t12 _ _ t16 t18 _ (S.at 2 rfl) (S.at 0 rfl) H19).mono ?_
      rintro _ w1_ ⟨rfl, hb⟩
      refine ⟨_, rfl, ?_⟩
      replace S := S.step hb
      clear  hb H19
      refine hK.out _ _ ⟨S.cell 0 rfl 0 rfl, S.cell 0 rfl 1 rfl⟩ (fun hHeld => ?_)
      clear hK K
      refine norm_ (a' := ?_) ?_ ?_
      rotate_left
      · show Act.put _ (some 31) _ = _
        simp only [Act.put, List.setIfInBounds_toArray, List.set_cons_zero, List.set_cons_succ, i64_w, i32_w]
        rfl
      revert H
      cases t18 with
      | false => ?gd20f
      | true => ?gd20t
      case' gd20t =>
        intro H
        have d20t := trivial
        rw [if_pos rfl] at H
        refine pure_ (i := 5) (N := some 32) (v := ?_) (a' := ?_) #[true, true, true, true, true, true, false, false, false, false, false, false, false] rfl rfl (any_of HT_.out (by kernel_rfl)) (fun _ _ _ h => h) (Or.inl ⟨by rfl, ?_⟩) ?_ ?_
        rotate_left
        · intro w'
          go_simp
          try with_reducible rfl
        rotate_left
        · simp only [Act.put, List.setIfInBounds_toArray, List.set_cons_zero, List.set_cons_succ, i64_w, i32_w]
          rfl
        refine pure_ (i := 6) (N := some 33) (v := ?_) (a' := ?_) #[true, true, true, true, true, true, true, false, false, false, false, false, false] rfl rfl (any_of HT_.out (by kernel_rfl)) (fun _ _ _ h => h) (Or.inl ⟨by rfl, ?_⟩) ?_ ?_
        rotate_left
        · intro w'
          go_simp
          try with_reducible rfl
        rotate_left
        · simp only [Act.put, List.setIfInBounds_toArray, List.set_cons_zero, List.set_cons_succ, i64_w, i32_w]
          rfl
        refine pure_ (i := 7) (N := some 34) (v := ?_) (a' := ?_) #[true, true, true, true, true, true, true, true, false, false, false, false, false] rfl rfl (any_of HT_.out (by kernel_rfl)) (fun _ _ _ h => h) (Or.inl ⟨by rfl, ?_⟩) ?_ ?_
        rotate_left
        · intro w'
          go_simp
          try with_reducible rfl
        rotate_left
        · simp only [Act.put, List.setIfInBounds_toArray, List.set_cons_zero, List.set_cons_succ, i64_w, i32_w]
          rfl
        refine take_ (i := 8) (N := some 35) (v := ?_) (a' := ?_) #[true, true, true, true, true, true, true, true, true, false, false, false, false] rfl rfl (take_ofW HT_.out HW_.out (by kernel_rfl)) (fun _ _ _ h => h) (Or.inl ⟨by rfl, ?_⟩) hHeld ?_ ?_
        rotate_left
        · rintro w' ⟨s0, s1⟩
          go_simp
          try with_reducible rfl
        rotate_left
        · simp only [Act.put, List.setIfInBounds_toArray, List.set_cons_zero, List.set_cons_succ, i64_w, i32_w]
          rfl
        refine one_ (i := 9) (N := some 36) #[true, true, true, true, true, true, true, true, true, true, false, false, false] rfl rfl (one_of HT_.out (by kernel_rfl)) (by decide) (fun K hK => ?_)
        refine dr_lit (some 36) S (by rfl) rfl 34 ([1] : List Int) (by decide) ?_ ?_
        · first | (go_simp; done) | (go_simp; rfl)
        intro B21 C21 w1_ S
        refine hK.out _ _ ⟨S.cell 0 rfl 0 rfl, S.cell 0 rfl 1 rfl⟩ (fun hHeld => ?_)
        clear hK K
        refine norm_ (a' := ?_) ?_ ?_
        rotate_left
        · show Act.put _ (some 36) _ = _
          simp only [Act.put, List.setIfInBounds_toArray, List.set_cons_zero, List.set_cons_succ, i64_w, i32_w]
          rfl
        refine one_ (i := 10) (N := some 37) #[true, true, true, true, true, true, true, true, true, true, true, false, false] rfl rfl (one_of HT_.out (by kernel_rfl)) (by decide) (fun K hK => ?_)
        refine goes_ Tryd.func13 (by kernel_rfl) rfl #[.slice B13 t13.length C13, .slice B21 ([1] : List Int).length C21] (by rfl) rfl rfl EQ ?_
        obtain ⟨t22, H23, H⟩ := bind_p H
        refine (samphireref02_Same.sc k _ _ t13 _ _ ([1] : List Int) t22 _ (S.at 2 rfl) (S.at 0 rfl) H23).mono ?_
        rintro _ w1_ ⟨rfl, hb⟩
        refine ⟨_, rfl, ?_⟩
        replace S := S.step hb
        clear  hb H23
        refine hK.out _ _ ⟨S.cell 0 rfl 0 rfl, S.cell 0 rfl 1 rfl⟩ (fun hHeld => ?_)
        clear hK K
        refine norm_ (a' := ?_) ?_ ?_
        rotate_left
        · show Act.put _ (some 37) _ = _
          simp only [Act.put, List.setIfInBounds_toArray, List.set_cons_zero, List.set_cons_succ, i64_w, i32_w]
          rfl
        revert H
        cases t22 with
        | false => ?gd24f
        | true => ?gd24t
        case' gd24t =>
          intro H
          have d24t := trivial
          rw [if_pos rfl] at H
          refine pure_ (i := 11) (N := some 38) (v := ?_) (a' := ?_) #[true, true, true, true, true, true, true, true, true, true, true, true, false] rfl rfl (any_of HT_.out (by kernel_rfl)) (fun _ _ _ h => h) (Or.inl ⟨by rfl, ?_⟩) ?_ ?_
          rotate_left
          · intro w'
            go_simp
            try with_reducible rfl
          rotate_left
          · simp only [Act.put, List.setIfInBounds_toArray, List.set_cons_zero, List.set_cons_succ, i64_w, i32_w]
            rfl
          refine pure_ (i := 12) (N := some 39) (v := ?_) (a' := ?_) #[true, true, true, true, true, true, true, true, true, true, true, true, true] rfl rfl (any_of HT_.out (by kernel_rfl)) (fun _ _ _ h => h) (Or.inl ⟨by rfl, ?_⟩) ?_ ?_
          rotate_left
          · intro w'
            go_simp
            try with_reducible rfl
          rotate_left
          · simp only [Act.put, List.setIfInBounds_toArray, List.set_cons_zero, List.set_cons_succ, i64_w, i32_w]
            rfl
          refine done_ (done_of HT_.out (by kernel_rfl)) ?_
        case' gd24f =>
          intro H
          have d24f := trivial
          rw [if_neg (by decide)] at H
          refine pure_ (i := 11) (N := some 38) (v := ?_) (a' := ?_) #[true, true, true, true, true, true, true, true, true, true, true, true, false] rfl rfl (any_of HT_.out (by kernel_rfl)) (fun _ _ _ h => h) (Or.inl ⟨by rfl, ?_⟩) ?_ ?_
          rotate_left
          · intro w'
            go_simp
            try with_reducible rfl
          rotate_left
          · simp only [Act.put, List.setIfInBounds_toArray, List.set_cons_zero, List.set_cons_succ, i64_w, i32_w]
            rfl
          refine pure_ (i := 12) (N := some 39) (v := ?_) (a' := ?_) #[true, true, true, true, true, true, true, true, true, true, true, true, true] rfl rfl (any_of HT_.out (by kernel_rfl)) (fun _ _ _ h => h) (Or.inl ⟨by rfl, ?_⟩) ?_ ?_
          rotate_left
          · intro w'
            go_simp
            try with_reducible rfl
          rotate_left
          · simp only [Act.put, List.setIfInBounds_toArray, List.set_cons_zero, List.set_cons_succ, i64_w, i32_w]
            rfl
          refine done_ (done_of HT_.out (by kernel_rfl)) ?_
      case' gd20f =>
        intro H
        have d20f := trivial
        rw [if_neg (by decide)] at H
        refine pure_ (i := 5) (N := some 32) (v := ?_) (a' := ?_) #[true, true, true, true, true, true, false, false, false, false, false, false, false] rfl rfl (any_of HT_.out (by kernel_rfl)) (fun _ _ _ h => h) (Or.inl ⟨by rfl, ?_⟩) ?_ ?_
        rotate_left
        · intro w'
          go_simp
          try with_reducible rfl
        rotate_left
        · simp only [Act.put, List.setIfInBounds_toArray, List.set_cons_zero, List.set_cons_succ, i64_w, i32_w]
          rfl
        refine pure_ (i := 6) (N := some 33) (v := ?_) (a' := ?_) #[true, true, true, true, true, true, true, false, false, false, false, false, false] rfl rfl (any_of HT_.out (by kernel_rfl)) (fun _ _ _ h => h) (Or.inl ⟨by rfl, ?_⟩) ?_ ?_
        rotate_left
        · intro w'
          go_simp
          try with_reducible rfl
        rotate_left
        · simp only [Act.put, List.setIfInBounds_toArray, List.set_cons_zero, List.set_cons_succ, i64_w, i32_w]
          rfl
        refine pure_ (i := 7) (N := some 34) (v := undef) (a' := ?_) #[true, true, true, true, true, true, true, true, false, false, false, false, false] rfl rfl (any_of HT_.out (by kernel_rfl)) (fun _ _ _ h => h) (Or.inr ⟨by rfl, rfl⟩) ?_ ?_
        rotate_left
        · simp only [Act.put, List.setIfInBounds_toArray, List.set_cons_zero, List.set_cons_succ, i64_w, i32_w]
          rfl
        refine pure_ (i := 8) (N := some 35) (v := undef) (a' := ?_) #[true, true, true, true, true, true, true, true, true, false, false, false, false] rfl rfl (any_of HT_.out (by kernel_rfl)) (fun _ _ _ h => h) (Or.inr ⟨by rfl, rfl⟩) ?_ ?_
        rotate_left
        · simp only [Act.put, List.setIfInBounds_toArray, List.set_cons_zero, List.set_cons_succ, i64_w, i32_w]
          rfl
        refine pure_ (i := 9) (N := some 36) (v := undef) (a' := ?_) #[true, true, true, true, true, true, true, true, true, true, false, false, false] rfl rfl (any_of HT_.out (by kernel_rfl)) (fun _ _ _ h => h) (Or.inr ⟨by rfl, rfl⟩) ?_ ?_
        rotate_left
        · simp only [Act.put, List.setIfInBounds_toArray, List.set_cons_zero, List.set_cons_succ, i64_w, i32_w]
          rfl
        refine pure_ (i := 10) (N := some 37) (v := undef) (a' := ?_) #[true, true, true, true, true, true, true, true, true, true, true, false, false] rfl rfl (any_of HT_.out (by kernel_rfl)) (fun _ _ _ h => h) (Or.inr ⟨by rfl, rfl⟩) ?_ ?_
        rotate_left
        · simp only [Act.put, List.setIfInBounds_toArray, List.set_cons_zero, List.set_cons_succ, i64_w, i32_w]
          rfl
        refine pure_ (i := 11) (N := some 38) (v := undef) (a' := ?_) #[true, true, true, true, true, true, true, true, true, true, true, true, false] rfl rfl (any_of HT_.out (by kernel_rfl)) (fun _ _ _ h => h) (Or.inr ⟨by rfl, rfl⟩) ?_ ?_
        rotate_left
        · simp only [Act.put, List.setIfInBounds_toArray, List.set_cons_zero, List.set_cons_succ, i64_w, i32_w]
          rfl
        refine pure_ (i := 12) (N := some 39) (v := ?_) (a' := ?_) #[true, true, true, true, true, true, true, true, true, true, true, true, true] rfl rfl (any_of HT_.out (by kernel_rfl)) (fun _ _ _ h => h) (Or.inl ⟨by rfl, ?_⟩) ?_ ?_
        rotate_left
        · intro w'
          go_simp
          try with_reducible rfl
        rotate_left
        · simp only [Act.put, List.setIfInBounds_toArray, List.set_cons_zero, List.set_cons_succ, i64_w, i32_w]
          rfl
        refine done_ (done_of HT_.out (by kernel_rfl)) ?_)
    | ((with_reducible refine gate_d (N := 42) d24t rfl ?_); refine goesL_ (some 42) rfl rfl Tryd.func15 (by kernel_rfl) rfl #[.slice A0 l0.length c0] rfl EQ ?_; (try clear q0); (try clear q1); obtain ⟨t25, H26, H⟩ := bind_p H; refine (samphireref02_Right.sc _ _ l0 t25 _ (S.at 6 rfl) H26).mono ?_; rintro _ w1_ ⟨rfl, hb⟩; refine ⟨_, rfl, ?_⟩; replace S := S.step hb; clear  hb H26; have q0 := S.cell 1 rfl 0 rfl; have q1 := S.cell 1 rfl 1 rfl; revert H; refine w_b (fun d27t d27t' => fun H => ?_) (fun d27f d27f' => fun H => ?_))
    | ((with_reducible refine gate_d (N := 46) d27t rfl ?_); (try (refine gate_guard (by rfl) ?_; dsimp only)); refine goesL_ (some 46) rfl rfl Tryd.func15 (by kernel_rfl) rfl #[.slice A1 l1.length c1] rfl EQ ?_; (try clear q0); (try clear q1); obtain ⟨t28, H29, H⟩ := bind_p H; refine (samphireref02_Right.sc _ _ l1 t28 _ (S.at 7 rfl) H29).mono ?_; rintro _ w1_ ⟨rfl, hb⟩; refine ⟨_, rfl, ?_⟩; replace S := S.step hb; clear  hb H29; have q0 := S.cell 1 rfl 0 rfl; have q1 := S.cell 1 rfl 1 rfl; revert H; refine w_b (fun d30t d30t' => w_len0 (fun d31t d31t' d31t_ => fun H => ?_) (fun d31f d31f' d31f_ => fun H => ?_)) (fun d30f d30f' => fun H => ?_))
    | ((with_reducible refine gate_d (N := 63) d31t rfl ?_); refine goesL_ (some 63) rfl rfl Tryd.func16 (by kernel_rfl) rfl #[.agg #[.slice B7 t7.length C7, .slice B8 t8.length C8], .int .i64 t9, .agg #[.slice none 0 0, .slice none 0 0], .int .i64 7] rfl EQ ?_; (try clear q0); (try clear q1); obtain ⟨t32, H33, H⟩ := bind_p H; refine (samphirelaw03_told.sc k _ _ t7 _ _ t8 t9 _ _ ([] : List Int) _ _ ([] : List Int) 7 t32 _ (S.at 5 rfl) (S.at 4 rfl) (Row.nil _) (Row.nil _) H33).mono ?_; rintro _ w1_ ⟨rfl, hb⟩; refine ⟨_, rfl, ?_⟩; replace S := S.step hb; clear  hb H33; revert H; refine w_b (fun d34t d34t' => fun H => ?_) (fun d34f d34f' => fun H => ?_))
    | ((with_reducible refine gate_d (N := 65) d34t rfl ?_); (try (refine gate_guard (by rfl) ?_; dsimp only)); refine goesL_ (some 65) rfl rfl Tryd.func10 (by kernel_rfl) rfl #[] rfl EQ ?_; (try clear q0); (try clear q1); obtain ⟨t35, H36, H⟩ := bind_p H; refine (samphirelaw03_awake.sc k t35 _ H36).mono ?_; rintro _ w1_ ⟨rfl, hb⟩; refine ⟨_, rfl, ?_⟩; replace S := S.step hb; clear  hb H36)
    | (
      refine gate_w d31f ?_
      (try clear q0); (try clear q1)
      have S := S.drew
      refine start_ (n := 14) (S := fun w' => w'.cell? ⟨g11, 0, none⟩ = some (.slice B7 t7.length C7) ∧ w'.cell? ⟨g11, 1, none⟩ = some (.slice B8 t8.length C8)) (ds := []) #[false, false, false, false, false, false, false, false, false, false, false, false, false, false] (by kernel_rfl) rfl rfl ⟨S.cell 1 rfl 0 rfl, S.cell 1 rfl 1 rfl⟩ (fun hHeld => ?_)
      refine with_tabW samphirelaw03_RatMakes.tab11 samphirelaw03_RatMakes.bits11 (fun HT_ HW_ => ?_)
      generalize World.drew _ = w1_ at S hHeld ⊢
      refine pure_ (i := 1) (N := some 68) (v := ?_) (a' := ?_) #[false, true, false, false, false, false, false, false, false, false, false, false, false, false] rfl rfl (any_of HT_.out (by kernel_rfl)) (fun _ _ _ h => h) (Or.inl ⟨by rfl, ?_⟩) ?_ ?_
      rotate_left
      · intro w'
        go_simp
        try with_reducible rfl
      rotate_left
      · simp only [Act.put, List.setIfInBounds_toArray, List.set_cons_zero, List.set_cons_succ, i64_w, i32_w]
        rfl
      refine pure_ (i := 2) (N := some 69) (v := ?_) (a' := ?_) #[false, true, true, false, false, false, false, false, false, false, false, false, false, false] rfl rfl (any_of HT_.out (by kernel_rfl)) (fun _ _ _ h => h) (Or.inl ⟨by rfl, ?_⟩) ?_ ?_
      rotate_left
      · intro w'
        go_simp
        try with_reducible rfl
      rotate_left
      · simp only [Act.put, List.setIfInBounds_toArray, List.set_cons_zero, List.set_cons_succ, i64_w, i32_w]
        rfl
      refine pure_ (i := 3) (N := some 70) (v := ?_) (a' := ?_) #[false, true, true, true, false, false, false, false, false, false, false, false, false, false] rfl rfl (any_of HT_.out (by kernel_rfl)) (fun _ _ _ h => h) (Or.inl ⟨by rfl, ?_⟩) ?_ ?_
      rotate_left
      · intro w'
        go_simp
        try with_reducible rfl
      rotate_left
      · simp only [Act.put, List.setIfInBounds_toArray, List.set_cons_zero, List.set_cons_succ, i64_w, i32_w]
        rfl
      refine take_ (i := 0) (N := some 67) (v := ?_) (a' := ?_) #[true, true, true, true, false, false, false, false, false, false, false, false, false, false] rfl rfl (take_ofW HT_.out HW_.out (by kernel_rfl)) (fun _ _ _ h => h) (Or.inl ⟨by rfl, ?_⟩) hHeld ?_ ?_
      rotate_left
      · rintro w' ⟨s0, s1⟩
        go_simp
        try with_reducible rfl
      rotate_left
      · simp only [Act.put, List.setIfInBounds_toArray, List.set_cons_zero, List.set_cons_succ, i64_w, i32_w]
        rfl
      refine one_ (i := 4) (N := some 71) #[true, true, true, true, true, false, false, false, false, false, false, false, false, false] rfl rfl (one_of HT_.out (by kernel_rfl)) (by decide) (fun K hK => ?_)
      refine goes_ Tryd.func17 (by kernel_rfl) rfl #[.slice A0 l0.length c0, .slice A1 l1.length c1] (by rfl) rfl rfl EQ ?_
      obtain ⟨⟨t37, t38⟩, H39, H⟩ := bind_p H
      dsimp only at H
      refine (samphireref03_Reduce.sc k _ _ l0 _ _ l1 t37 t38 _ (S.at 6 rfl) (S.at 7 rfl) H39).mono ?_
      rintro _ w1_ ⟨B37, C37, B38, C38, rfl, ut37, ut38, hb⟩
      refine ⟨_, rfl, ?_⟩
      replace S := ((S.step hb).add ut37).add ut38
      clear ut37 ut38 hb H39
      refine hK.out _ _ ⟨S.cell 1 rfl 0 rfl, S.cell 1 rfl 1 rfl⟩ (fun hHeld => ?_)
      clear hK K
      refine norm_ (a' := ?_) ?_ ?_
      rotate_left
      · show Act.put _ (some 71) _ = _
        simp only [Act.put, List.setIfInBounds_toArray, List.set_cons_zero, List.set_cons_succ, i64_w, i32_w]
        rfl
      refine one_ (i := 5) (N := some 72) #[true, true, true, true, true, true, false, false, false, false, false, false, false, false] rfl rfl (one_of HT_.out (by kernel_rfl)) (by decide) (fun K hK => ?_)
      refine goes_ Tryd.func16 (by kernel_rfl) rfl #[.agg #[.slice B7 t7.length C7, .slice B8 t8.length C8], .int .i64 t9, .agg #[.slice B37 t37.length C37, .slice B38 t38.length C38], .int .i64 0] (by rfl) rfl rfl EQ ?_
      obtain ⟨t40, H41, H⟩ := bind_p H
      refine (samphirelaw03_told.sc k _ _ t7 _ _ t8 t9 _ _ t37 _ _ t38 0 t40 _ (S.at 7 rfl) (S.at 6 rfl) (S.at 1 rfl) (S.at 0 rfl) H41).mono ?_
      rintro _ w1_ ⟨rfl, hb⟩
      refine ⟨_, rfl, ?_⟩
      replace S := S.step hb
      clear  hb H41
      refine hK.out _ _ ⟨S.cell 1 rfl 0 rfl, S.cell 1 rfl 1 rfl⟩ (fun hHeld => ?_)
      clear hK K
      refine norm_ (a' := ?_) ?_ ?_
      rotate_left
      · show Act.put _ (some 72) _ = _
        simp only [Act.put, List.setIfInBounds_toArray, List.set_cons_zero, List.set_cons_succ, i64_w, i32_w]
        rfl
      revert H
      cases t40 with
      | false => ?gd42f
      | true => ?gd42t
      case' gd42t =>
        intro H
        have d42t := trivial
        rw [if_pos rfl] at H
        refine pure_ (i := 6) (N := some 73) (v := ?_) (a' := ?_) #[true, true, true, true, true, true, true, false, false, false, false, false, false, false] rfl rfl (any_of HT_.out (by kernel_rfl)) (fun _ _ _ h => h) (Or.inl ⟨by rfl, ?_⟩) ?_ ?_
        rotate_left
        · intro w'
          go_simp
          try with_reducible rfl
        rotate_left
        · simp only [Act.put, List.setIfInBounds_toArray, List.set_cons_zero, List.set_cons_succ, i64_w, i32_w]
          rfl
        refine take_ (i := 7) (N := some 74) (v := ?_) (a' := ?_) #[true, true, true, true, true, true, true, true, false, false, false, false, false, false] rfl rfl (take_ofW HT_.out HW_.out (by kernel_rfl)) (fun _ _ _ h => h) (Or.inl ⟨by rfl, ?_⟩) hHeld ?_ ?_
        rotate_left
        · rintro w' ⟨s0, s1⟩
          go_simp
          try with_reducible rfl
        rotate_left
        · simp only [Act.put, List.setIfInBounds_toArray, List.set_cons_zero, List.set_cons_succ, i64_w, i32_w]
          rfl
        refine one_ (i := 8) (N := some 75) #[true, true, true, true, true, true, true, true, true, false, false, false, false, false] rfl rfl (one_of HT_.out (by kernel_rfl)) (by decide) (fun K hK => ?_)
        refine goes_ Tryd.func18 (by kernel_rfl) rfl #[.agg #[.slice B7 t7.length C7, .slice B8 t8.length C8]] (by rfl) rfl rfl EQ ?_
        obtain ⟨t43, H44, H⟩ := bind_p H
        refine (rat_Right.sc k _ _ t7 _ _ t8 t43 _ (S.at 7 rfl) (S.at 6 rfl) H44).mono ?_
        rintro _ w1_ ⟨rfl, hb⟩
        refine ⟨_, rfl, ?_⟩
        replace S := S.step hb
        clear  hb H44
        refine hK.out _ _ ⟨S.cell 1 rfl 0 rfl, S.cell 1 rfl 1 rfl⟩ (fun hHeld => ?_)
        clear hK K
        refine norm_ (a' := ?_) ?_ ?_
        rotate_left
        · show Act.put _ (some 75) _ = _
          simp only [Act.put, List.setIfInBounds_toArray, List.set_cons_zero, List.set_cons_succ, i64_w, i32_w]
          rfl
        revert H
        cases t43 with
        | false => ?gd45f
        | true => ?gd45t
        case' gd45t =>
          intro H
          have d45t := trivial
          rw [if_pos rfl] at H
          refine pure_ (i := 9) (N := some 76) (v := ?_) (a' := ?_) #[true, true, true, true, true, true, true, true, true, true, false, false, false, false] rfl rfl (any_of HT_.out (by kernel_rfl)) (fun _ _ _ h => h) (Or.inl ⟨by rfl, ?_⟩) ?_ ?_
          rotate_left
          · intro w'
            go_simp
            try with_reducible rfl
          rotate_left
          · simp only [Act.put, List.setIfInBounds_toArray, List.set_cons_zero, List.set_cons_succ, i64_w, i32_w]
            rfl
          refine pure_ (i := 10) (N := some 77) (v := ?_) (a' := ?_) #[true, true, true, true, true, true, true, true, true, true, true, false, false, false] rfl rfl (any_of HT_.out (by kernel_rfl)) (fun _ _ _ h => h) (Or.inl ⟨by rfl, ?_⟩) ?_ ?_
          rotate_left
          · intro w'
            go_simp
            try with_reducible rfl
          rotate_left
          · simp only [Act.put, List.setIfInBounds_toArray, List.set_cons_zero, List.set_cons_succ, i64_w, i32_w]
            rfl
          refine one_ (i := 11) (N := some 78) #[true, true, true, true, true, true, true, true, true, true, true, true, false, false] rfl rfl (one_of HT_.out (by kernel_rfl)) (by decide) (fun K hK => ?_)
          refine goes_ Tryd.func10 (by kernel_rfl) rfl #[] (by rfl) rfl rfl EQ ?_
          obtain ⟨t46, H47, H⟩ := bind_p H
          refine (samphirelaw03_awake.sc k t46 _ H47).mono ?_
          rintro _ w1_ ⟨rfl, hb⟩
          refine ⟨_, rfl, ?_⟩
          replace S := S.step hb
          clear  hb H47
          refine hK.out _ _ ⟨S.cell 1 rfl 0 rfl, S.cell 1 rfl 1 rfl⟩ (fun hHeld => ?_)
          clear hK K
          refine norm_ (a' := ?_) ?_ ?_
          rotate_left
          · show Act.put _ (some 78) _ = _
            simp only [Act.put, List.setIfInBounds_toArray, List.set_cons_zero, List.set_cons_succ, i64_w, i32_w]
            rfl
          revert H
          cases t46 with
          | false => ?gd48f
          | true => ?gd48t
          case' gd48t =>
            intro H
            have d48t := trivial
            rw [if_pos rfl] at H
            refine pure_ (i := 12) (N := some 79) (v := ?_) (a' := ?_) #[true, true, true, true, true, true, true, true, true, true, true, true, true, false] rfl rfl (any_of HT_.out (by kernel_rfl)) (fun _ _ _ h => h) (Or.inl ⟨by rfl, ?_⟩) ?_ ?_
            rotate_left
            · intro w'
              go_simp
              try with_reducible rfl
            rotate_left
            · simp only [Act.put, List.setIfInBounds_toArray, List.set_cons_zero, List.set_cons_succ, i64_w, i32_w]
              rfl
            refine pure_ (i := 13) (N := some 6) (v := ?_) (a' := ?_) #[true, true, true, true, true, true, true, true, true, true, true, true, true, true] rfl rfl (any_of HT_.out (by kernel_rfl)) (fun _ _ _ h => h) (Or.inl ⟨by rfl, ?_⟩) ?_ ?_
            rotate_left
            · intro w'
              go_simp
              try with_reducible rfl
            rotate_left
            · simp only [Act.put, List.setIfInBounds_toArray, List.set_cons_zero, List.set_cons_succ, i64_w, i32_w]
              rfl
            refine done_ (done_of HT_.out (by kernel_rfl)) ?_
          case' gd48f =>
            intro H
            have d48f := trivial
            rw [if_neg (by decide)] at H
            refine pure_ (i := 12) (N := some 79) (v := ?_) (a' := ?_) #[true, true, true, true, true, true, true, true, true, true, true, true, true, false] rfl rfl (any_of HT_.out (by kernel_rfl)) (fun _ _ _ h => h) (Or.inl ⟨by rfl, ?_⟩) ?_ ?_
            rotate_left
            · intro w'
              go_simp
              try with_reducible rfl
            rotate_left
            · simp only [Act.put, List.setIfInBounds_toArray, List.set_cons_zero, List.set_cons_succ, i64_w, i32_w]
              rfl
            refine pure_ (i := 13) (N := some 6) (v := ?_) (a' := ?_) #[true, true, true, true, true, true, true, true, true, true, true, true, true, true] rfl rfl (any_of HT_.out (by kernel_rfl)) (fun _ _ _ h => h) (Or.inl ⟨by rfl, ?_⟩) ?_ ?_
            rotate_left
            · intro w'
              go_simp
              try with_reducible rfl
            rotate_left
            · simp only [Act.put, List.setIfInBounds_toArray, List.set_cons_zero, List.set_cons_succ, i64_w, i32_w]
              rfl
            refine done_ (done_of HT_.out (by kernel_rfl)) ?_
        case' gd45f =>
          intro H
          have d45f := trivial
          rw [if_neg (by decide)] at H
          refine pure_ (i := 9) (N := some 76) (v := ?_) (a' := ?_) #[true, true, true, true, true, true, true, true, true, true, false, false, false, false] rfl rfl (any_of HT_.out (by kernel_rfl)) (fun _ _ _ h => h) (Or.inl ⟨by rfl, ?_⟩) ?_ ?_
          rotate_left
          · intro w'
            go_simp
            try with_reducible rfl
          rotate_left
          · simp only [Act.put, List.setIfInBounds_toArray, List.set_cons_zero, List.set_cons_succ, i64_w, i32_w]
            rfl
          refine pure_ (i := 10) (N := some 77) (v := ?_) (a' := ?_) #[true, true, true, true, true, true, true, true, true, true, true, false, false, false] rfl rfl (any_of HT_.out (by kernel_rfl)) (fun _ _ _ h => h) (Or.inl ⟨by rfl, ?_⟩) ?_ ?_
          rotate_left
          · intro w'
            go_simp
            try with_reducible rfl
          rotate_left
          · simp only [Act.put, List.setIfInBounds_toArray, List.set_cons_zero, List.set_cons_succ, i64_w, i32_w]
            rfl
          refine pure_ (i := 11) (N := some 78) (v := undef) (a' := ?_) #[true, true, true, true, true, true, true, true, true, true, true, true, false, false] rfl rfl (any_of HT_.out (by kernel_rfl)) (fun _ _ _ h => h) (Or.inr ⟨by rfl, rfl⟩) ?_ ?_
          rotate_left
          · simp only [Act.put, List.setIfInBounds_toArray, List.set_cons_zero, List.set_cons_succ, i64_w, i32_w]
            rfl
          refine pure_ (i := 12) (N := some 79) (v := ?_) (a' := ?_) #[true, true, true, true, true, true, true, true, true, true, true, true, true, false] rfl rfl (any_of HT_.out (by kernel_rfl)) (fun _ _ _ h => h) (Or.inl ⟨by rfl, ?_⟩) ?_ ?_
          rotate_left
          · intro w'
            go_simp
            try with_reducible rfl
          rotate_left
          · simp only [Act.put, List.setIfInBounds_toArray, List.set_cons_zero, List.set_cons_succ, i64_w, i32_w]
            rfl
          refine pure_ (i := 13) (N := some 6) (v := ?_) (a' := ?_) #[true, true, true, true, true, true, true, true, true, true, true, true, true, true] rfl rfl (any_of HT_.out (by kernel_rfl)) (fun _ _ _ h => h) (Or.inl ⟨by rfl, ?_⟩) ?_ ?_
          rotate_left
          · intro w'
            go_simp
            try with_reducible rfl
          rotate_left
          · simp only [Act.put, List.setIfInBounds_toArray, List.set_cons_zero, List.set_cons_succ, i64_w, i32_w]
            rfl
          refine done_ (done_of HT_.out (by kernel_rfl)) ?_
      case' gd42f =>
        intro H
        have d42f := trivial
        rw [if_neg (by decide)] at H
        refine pure_ (i := 6) (N := some 73) (v := ?_) (a' := ?_) #[true, true, true, true, true, true, true, false, false, false, false, false, false, false] rfl rfl (any_of HT_.out (by kernel_rfl)) (fun _ _ _ h => h) (Or.inl ⟨by rfl, ?_⟩) ?_ ?_
        rotate_left
        · intro w'
          go_simp
          try with_reducible rfl
        rotate_left
        · simp only [Act.put, List.setIfInBounds_toArray, List.set_cons_zero, List.set_cons_succ, i64_w, i32_w]
          rfl
        refine pure_ (i := 7) (N := some 74) (v := undef) (a' := ?_) #[true, true, true, true, true, true, true, true, false, false, false, false, false, false] rfl rfl (any_of HT_.out (by kernel_rfl)) (fun _ _ _ h => h) (Or.inr ⟨by rfl, rfl⟩) ?_ ?_
        rotate_left
        · simp only [Act.put, List.setIfInBounds_toArray, List.set_cons_zero, List.set_cons_succ, i64_w, i32_w]
          rfl
        refine pure_ (i := 8) (N := some 75) (v := undef) (a' := ?_) #[true, true, true, true, true, true, true, true, true, false, false, false, false, false] rfl rfl (any_of HT_.out (by kernel_rfl)) (fun _ _ _ h => h) (Or.inr ⟨by rfl, rfl⟩) ?_ ?_
        rotate_left
        · simp only [Act.put, List.setIfInBounds_toArray, List.set_cons_zero, List.set_cons_succ, i64_w, i32_w]
          rfl
        refine pure_ (i := 9) (N := some 76) (v := ?_) (a' := ?_) #[true, true, true, true, true, true, true, true, true, true, false, false, false, false] rfl rfl (any_of HT_.out (by kernel_rfl)) (fun _ _ _ h => h) (Or.inl ⟨by rfl, ?_⟩) ?_ ?_
        rotate_left
        · intro w'
          go_simp
          try with_reducible rfl
        rotate_left
        · simp only [Act.put, List.setIfInBounds_toArray, List.set_cons_zero, List.set_cons_succ, i64_w, i32_w]
          rfl
        refine pure_ (i := 10) (N := some 77) (v := ?_) (a' := ?_) #[true, true, true, true, true, true, true, true, true, true, true, false, false, false] rfl rfl (any_of HT_.out (by kernel_rfl)) (fun _ _ _ h => h) (Or.inl ⟨by rfl, ?_⟩) ?_ ?_
        rotate_left
        · intro w'
          go_simp
          try with_reducible rfl
        rotate_left
        · simp only [Act.put, List.setIfInBounds_toArray, List.set_cons_zero, List.set_cons_succ, i64_w, i32_w]
          rfl
        refine pure_ (i := 11) (N := some 78) (v := undef) (a' := ?_) #[true, true, true, true, true, true, true, true, true, true, true, true, false, false] rfl rfl (any_of HT_.out (by kernel_rfl)) (fun _ _ _ h => h) (Or.inr ⟨by rfl, rfl⟩) ?_ ?_
        rotate_left
        · simp only [Act.put, List.setIfInBounds_toArray, List.set_cons_zero, List.set_cons_succ, i64_w, i32_w]
          rfl
        refine pure_ (i := 12) (N := some 79) (v := ?_) (a' := ?_) #[true, true, true, true, true, true, true, true, true, true, true, true, true, false] rfl rfl (any_of HT_.out (by kernel_rfl)) (fun _ _ _ h => h) (Or.inl ⟨by rfl, ?_⟩) ?_ ?_
        rotate_left
        · intro w'
          go_simp
          try with_reducible rfl
        rotate_left
        · simp only [Act.put, List.setIfInBounds_toArray, List.set_cons_zero, List.set_cons_succ, i64_w, i32_w]
          rfl
        refine pure_ (i := 13) (N := some 6) (v := ?_) (a' := ?_) #[true, true, true, true, true, true, true, true, true, true, true, true, true, true] rfl rfl (any_of HT_.out (by kernel_rfl)) (fun _ _ _ h => h) (Or.inl ⟨by rfl, ?_⟩) ?_ ?_
        rotate_left
        · intro w'
          go_simp
          try with_reducible rfl
        rotate_left
        · simp only [Act.put, List.setIfInBounds_toArray, List.set_cons_zero, List.set_cons_succ, i64_w, i32_w]
          rfl
        refine done_ (done_of HT_.out (by kernel_rfl)) ?_)
    | ((with_reducible refine gate_d (N := 52) d30f rfl ?_); refine goesL_ (some 52) rfl rfl Tryd.func16 (by kernel_rfl) rfl #[.agg #[.slice B7 t7.length C7, .slice B8 t8.length C8], .int .i64 t9, .agg #[.slice none 0 0, .slice none 0 0], .int .i64 1] rfl EQ ?_; (try clear q0); (try clear q1); obtain ⟨t49, H50, H⟩ := bind_p H; refine (samphirelaw03_told.sc k _ _ t7 _ _ t8 t9 _ _ ([] : List Int) _ _ ([] : List Int) 1 t49 _ (S.at 5 rfl) (S.at 4 rfl) (Row.nil _) (Row.nil _) H50).mono ?_; rintro _ w1_ ⟨rfl, hb⟩; refine ⟨_, rfl, ?_⟩; replace S := S.step hb; clear  hb H50; revert H; refine w_b (fun d51t d51t' => fun H => ?_) (fun d51f d51f' => fun H => ?_))
    | ((with_reducible refine gate_d (N := 54) d51t rfl ?_); (try (refine gate_guard (by rfl) ?_; dsimp only)); refine goesL_ (some 54) rfl rfl Tryd.func10 (by kernel_rfl) rfl #[] rfl EQ ?_; (try clear q0); (try clear q1); obtain ⟨t52, H53, H⟩ := bind_p H; refine (samphirelaw03_awake.sc k t52 _ H53).mono ?_; rintro _ w1_ ⟨rfl, hb⟩; refine ⟨_, rfl, ?_⟩; replace S := S.step hb; clear  hb H53)
    | ((with_reducible refine gate_d (N := 52) d27f rfl ?_); refine goesL_ (some 52) rfl rfl Tryd.func16 (by kernel_rfl) rfl #[.agg #[.slice B7 t7.length C7, .slice B8 t8.length C8], .int .i64 t9, .agg #[.slice none 0 0, .slice none 0 0], .int .i64 1] rfl EQ ?_; (try clear q0); (try clear q1); obtain ⟨t54, H55, H⟩ := bind_p H; refine (samphirelaw03_told.sc k _ _ t7 _ _ t8 t9 _ _ ([] : List Int) _ _ ([] : List Int) 1 t54 _ (S.at 5 rfl) (S.at 4 rfl) (Row.nil _) (Row.nil _) H55).mono ?_; rintro _ w1_ ⟨rfl, hb⟩; refine ⟨_, rfl, ?_⟩; replace S := S.step hb; clear  hb H55; revert H; refine w_b (fun d56t d56t' => fun H => ?_) (fun d56f d56f' => fun H => ?_))
    | ((with_reducible refine gate_d (N := 54) d56t rfl ?_); (try (refine gate_guard (by rfl) ?_; dsimp only)); refine goesL_ (some 54) rfl rfl Tryd.func10 (by kernel_rfl) rfl #[] rfl EQ ?_; (try clear q0); (try clear q1); obtain ⟨t57, H58, H⟩ := bind_p H; refine (samphirelaw03_awake.sc k t57 _ H58).mono ?_; rintro _ w1_ ⟨rfl, hb⟩; refine ⟨_, rfl, ?_⟩; replace S := S.step hb; clear  hb H58))
  all_goals first
    | (have _p := d1t; obtain rfl := Option.some.inj H; go_ret; exact ⟨rfl, S.below⟩)
    | (have _p := d4t; obtain rfl := Option.some.inj H; go_ret; exact ⟨rfl, S.below⟩)
    | (have _p := d34t; obtain rfl := Option.some.inj H; go_ret; exact ⟨rfl, S.below⟩)
    | (have _p := d34f; obtain rfl := Option.some.inj H; go_ret; exact ⟨rfl, S.below⟩)
    | (have _p := d48t; obtain rfl := Option.some.inj H; go_ret; exact ⟨rfl, S.below⟩)
    | (have _p := d48f; obtain rfl := Option.some.inj H; go_ret; exact ⟨rfl, S.below⟩)
    | (have _p := d45f; obtain rfl := Option.some.inj H; go_ret; exact ⟨rfl, S.below⟩)
    | (have _p := d42f; obtain rfl := Option.some.inj H; go_ret; exact ⟨rfl, S.below⟩)
    | (have _p := d42f; obtain rfl := Option.some.inj H; go_ret; exact ⟨rfl, S.below⟩)
    | (have _p := d51t; obtain rfl := Option.some.inj H; go_ret; exact ⟨rfl, S.below⟩)
    | (have _p := d51f; obtain rfl := Option.some.inj H; go_ret; exact ⟨rfl, S.below⟩)
    | (have _p := d56t; obtain rfl := Option.some.inj H; go_ret; exact ⟨rfl, S.below⟩)
    | (have _p := d56f; obtain rfl := Option.some.inj H; go_ret; exact ⟨rfl, S.below⟩)
    | (have _p := d24f; obtain rfl := Option.some.inj H; go_ret; exact ⟨rfl, S.below⟩)
    | (have _p := d20f; obtain rfl := Option.some.inj H; go_ret; exact ⟨rfl, S.below⟩)
    | (have _p := d20f; obtain rfl := Option.some.inj H; go_ret; exact ⟨rfl, S.below⟩)
end Go.Proofs.YtecbbenfcepohaaDoor.V
