-- Printed by this session's own program out of the translation.
import Derived.Test.YtecbbenfcepohaaDoorV5
namespace Go.Proofs.YtecbbenfcepohaaDoor.V
open Go.RowKit Go.Proofs.YtecbbenfcepohaaDoor.K Go.Proofs.YtecbbenfcepohaaDoorW.PrintWords Go.Proofs.YtecbbenfcepohaaDoorW.PrintLast Go.Proofs.YtecbbenfcepohaaDoorW.PrintMore Go.Proofs.YtecbbenfcepohaaDoor.RW
set_option linter.unusedVariables false
set_option linter.unusedSimpArgs false
def samphirelaw03_awake.T4 : Bool × List (List Nat × List Nat) := (true, [([], []), ([], []), ([0, 1, 1], [0, 1]), ([2], [2]), ([3], [3]), ([3], [3]), ([], []), ([6, 4, 2, 0, 1, 2, 3, 4, 6], [4, 6]), ([5, 7, 0, 1, 2, 3, 4, 5, 6, 7], [5])])
def samphirelaw03_awake.B4 : List Nat := [0, 0, 3, 7, 15, 15, 0, 95, 255]
theorem samphirelaw03_awake.tab4 : rtab .any (opsOf Tryd.f10 4) = samphirelaw03_awake.T4 := by kernel_rfl
theorem samphirelaw03_awake.bits4 : waitsOk samphirelaw03_awake.T4.2 samphirelaw03_awake.B4 = true := by kernel_rfl
set_option maxHeartbeats 8000000 in
set_option maxRecDepth 100000 in
theorem samphirelaw03_awake.sc (k : Nat) (r0 : Bool) (w : World) (h : Aside0 (samphirelaw03_awake.f k = some r0)) :
    Calls Tryd.prog 10 #[] w fun e w' => e = .returned (.bool r0) ∧ Below w.heap.size w w' := by
  have S := St.start w
  have H := h.out
  unfold samphirelaw03_awake.f at H
  clear h
  go_enter Tryd.func10, Tryd.ntmps10
  all_goals go_wp2_with (first
    | ((with_reducible refine gate_d (N := 14) trivial rfl ?_); (try clear q0); (try clear q1); (try clear q2); (try clear q3); refine ev_lit 14 rfl S rfl 34 ([2] : List Int) (by decide) ?hr ?_; (case hr => first | (go_simp; done) | (go_simp; rfl)); intro B1 C1 w1_ S)
    | ((with_reducible refine gate_d (N := 15) trivial rfl ?_); (try clear q0); (try clear q1); (try clear q2); (try clear q3); refine ev_lit 15 rfl S rfl 34 ([4] : List Int) (by decide) ?hr ?_; (case hr => first | (go_simp; done) | (go_simp; rfl)); intro B2 C2 w1_ S)
    | ((with_reducible refine gate_d (N := 16) trivial rfl ?_); refine goesL_ (some 16) rfl rfl Tryd.func11 (by kernel_rfl) rfl #[.slice B1 ([2] : List Int).length C1, .slice B2 ([4] : List Int).length C2] rfl EQ ?_; (try clear q0); (try clear q1); (try clear q2); (try clear q3); obtain ⟨⟨t3, t4, t5⟩, H6, H⟩ := bind_p H; dsimp only at H; refine (rat_Make.sc k _ _ ([2] : List Int) _ _ ([4] : List Int) t3 t4 t5 _ (S.at 1 rfl) (S.at 0 rfl) H6).mono ?_; rintro _ w1_ ⟨B3, C3, B4, C4, rfl, ut3, ut4, hb⟩; refine ⟨_, rfl, ?_⟩; replace S := ((S.step hb).add ut3).add ut4; clear ut3 ut4 hb H6)
    | ((with_reducible refine gate_d (N := 1) trivial rfl ?_); (try clear q0); (try clear q1); (try clear q2); (try clear q3); refine ev_box 1 rfl S rfl #[.slice none 0 0, .slice none 0 0] 27 ?hr rfl ?_; (case hr => first | (go_simp; done) | (go_simp; rfl)); intro g7 w1_ S)
    | ((with_reducible refine gate_s (t := 27) (q := 1) trivial rfl ?_); (try clear q0); (try clear q1); (try clear q2); (try clear q3); refine ev_put2 rfl S rfl rfl 0 rfl 0 (.slice B3 t3.length C3) (.slice B4 t4.length C4) rfl rfl rfl rfl ?hr ?_; (case hr => have z0 := S.cell 0 rfl 0 rfl; have y0 := S.frozen 0 rfl 0; have z1 := S.cell 0 rfl 1 rfl; have y1 := S.frozen 0 rfl 1; first | (go_simp; done) | (go_simp; rfl)); intro w1_ S)
    | ((with_reducible refine gate_d (N := 20) trivial rfl ?_); (try clear q0); (try clear q1); (try clear q2); (try clear q3); refine ev_lit 20 rfl S rfl 34 ([1] : List Int) (by decide) ?hr ?_; (case hr => first | (go_simp; done) | (go_simp; rfl)); intro B8 C8 w1_ S)
    | ((with_reducible refine gate_d (N := 21) trivial rfl ?_); (try clear q0); (try clear q1); (try clear q2); (try clear q3); refine ev_lit 21 rfl S rfl 34 ([6] : List Int) (by decide) ?hr ?_; (case hr => first | (go_simp; done) | (go_simp; rfl)); intro B9 C9 w1_ S)
    | ((with_reducible refine gate_d (N := 22) trivial rfl ?_); refine goesL_ (some 22) rfl rfl Tryd.func11 (by kernel_rfl) rfl #[.slice B8 ([1] : List Int).length C8, .slice B9 ([6] : List Int).length C9] rfl EQ ?_; (try clear q0); (try clear q1); (try clear q2); (try clear q3); obtain ⟨⟨t10, t11, t12⟩, H13, H⟩ := bind_p H; dsimp only at H; refine (rat_Make.sc k _ _ ([1] : List Int) _ _ ([6] : List Int) t10 t11 t12 _ (S.at 1 rfl) (S.at 0 rfl) H13).mono ?_; rintro _ w1_ ⟨B10, C10, B11, C11, rfl, ut10, ut11, hb⟩; refine ⟨_, rfl, ?_⟩; replace S := ((S.step hb).add ut10).add ut11; clear ut10 ut11 hb H13)
    | ((with_reducible refine gate_d (N := 3) trivial rfl ?_); (try clear q0); (try clear q1); (try clear q2); (try clear q3); refine ev_box 3 rfl S rfl #[.slice none 0 0, .slice none 0 0] 27 ?hr rfl ?_; (case hr => first | (go_simp; done) | (go_simp; rfl)); intro g14 w1_ S)
    | ((with_reducible refine gate_s (t := 27) (q := 3) trivial rfl ?_); (try clear q0); (try clear q1); (try clear q2); (try clear q3); refine ev_put2 rfl S rfl rfl 0 rfl 0 (.slice B10 t10.length C10) (.slice B11 t11.length C11) rfl rfl rfl rfl ?hr ?_; (case hr => have z0 := S.cell 0 rfl 0 rfl; have y0 := S.frozen 0 rfl 0; have z1 := S.cell 0 rfl 1 rfl; have y1 := S.frozen 0 rfl 1; first | (go_simp; done) | (go_simp; rfl)); intro w1_ S; have q0 := S.cell 1 rfl 0 rfl; have q1 := S.cell 1 rfl 1 rfl; have q2 := S.cell 0 rfl 0 rfl; have q3 := S.cell 0 rfl 1 rfl)
    | ((with_reducible refine gate_d (N := 28) trivial rfl ?_); refine goesL_ (some 28) rfl rfl Tryd.func23 (by kernel_rfl) rfl #[.agg #[.slice B3 t3.length C3, .slice B4 t4.length C4], .agg #[.slice B10 t10.length C10, .slice B11 t11.length C11]] rfl EQ ?_; (try clear q0); (try clear q1); (try clear q2); (try clear q3); obtain ⟨⟨t15, t16, t17⟩, H18, H⟩ := bind_p H; dsimp only at H; refine (rat_Add.sc k _ _ t3 _ _ t4 _ _ t10 _ _ t11 t15 t16 t17 _ (S.at 5 rfl) (S.at 4 rfl) (S.at 1 rfl) (S.at 0 rfl) H18).mono ?_; rintro _ w1_ ⟨B15, C15, B16, C16, rfl, ut15, ut16, hb⟩; refine ⟨_, rfl, ?_⟩; replace S := ((S.step hb).add ut15).add ut16; clear ut15 ut16 hb H18)
    | ((with_reducible refine gate_d (N := 5) trivial rfl ?_); (try clear q0); (try clear q1); (try clear q2); (try clear q3); refine ev_box 5 rfl S rfl #[.slice none 0 0, .slice none 0 0] 27 ?hr rfl ?_; (case hr => first | (go_simp; done) | (go_simp; rfl)); intro g19 w1_ S)
    | ((with_reducible refine gate_s (t := 27) (q := 5) trivial rfl ?_); (try clear q0); (try clear q1); (try clear q2); (try clear q3); refine ev_put2 rfl S rfl rfl 0 rfl 0 (.slice B15 t15.length C15) (.slice B16 t16.length C16) rfl rfl rfl rfl ?hr ?_; (case hr => have z0 := S.cell 0 rfl 0 rfl; have y0 := S.frozen 0 rfl 0; have z1 := S.cell 0 rfl 1 rfl; have y1 := S.frozen 0 rfl 1; first | (go_simp; done) | (go_simp; rfl)); intro w1_ S)
    | (
      refine gate_w trivial ?_
      (try clear q0); (try clear q1); (try clear q2); (try clear q3)
      refine draw_cut (M := fun a w_ => ∃ (t20 : List Int) (t21 : List Int) (B20 : Option Addr) (C20 : Nat) (B21 : Option Addr) (C21 : Nat) (t23 : List Int) (t24 : List Int) (t25 : Int) (B23 : Option Addr) (C23 : Nat) (B24 : Option Addr) (C24 : Nat) (g27 : Nat), a = { tmps := #[.bool false, .pointer (some ⟨g7, 0, none⟩), .int .i64 t5, .pointer (some ⟨g14, 0, none⟩), .int .i64 t12, .pointer (some ⟨g19, 0, none⟩), .int .i64 t17, .pointer (some ⟨g27, 0, none⟩), .int .i64 t25, undef, undef, undef, undef, .tuple #[.agg #[.slice B3 t3.length C3, .slice B4 t4.length C4], .int .i64 t5], .slice B1 ([2] : List Int).length C1, .slice B2 ([4] : List Int).length C2, .tuple #[.agg #[.slice B3 t3.length C3, .slice B4 t4.length C4], .int .i64 t5], .agg #[.slice B3 t3.length C3, .slice B4 t4.length C4], .int .i64 t5, .tuple #[.agg #[.slice B10 t10.length C10, .slice B11 t11.length C11], .int .i64 t12], .slice B8 ([1] : List Int).length C8, .slice B9 ([6] : List Int).length C9, .tuple #[.agg #[.slice B10 t10.length C10, .slice B11 t11.length C11], .int .i64 t12], .agg #[.slice B10 t10.length C10, .slice B11 t11.length C11], .int .i64 t12, .tuple #[.agg #[.slice B15 t15.length C15, .slice B16 t16.length C16], .int .i64 t17], .agg #[.slice B3 t3.length C3, .slice B4 t4.length C4], .agg #[.slice B10 t10.length C10, .slice B11 t11.length C11], .tuple #[.agg #[.slice B15 t15.length C15, .slice B16 t16.length C16], .int .i64 t17], .agg #[.slice B15 t15.length C15, .slice B16 t16.length C16], .int .i64 t17, .tuple #[.agg #[.slice B23 t23.length C23, .slice B24 t24.length C24], .int .i64 t25], .agg #[.slice B3 t3.length C3, .slice B4 t4.length C4], .agg #[.slice B20 t20.length C20, .slice B21 t21.length C21], .tuple #[.agg #[.slice B23 t23.length C23, .slice B24 t24.length C24], .int .i64 t25], .agg #[.slice B23 t23.length C23, .slice B24 t24.length C24], .int .i64 t25, undef, undef, undef, undef, undef, undef, undef, undef, undef, undef, undef, undef, undef, undef, undef, undef, undef, undef, undef, undef, undef, undef, undef, undef, undef, undef, undef, undef, undef, undef, undef, undef, undef, undef, undef, undef, undef, undef, undef, undef, undef, undef, undef, undef, undef, undef, undef, undef, undef, undef, undef, undef, undef, undef, undef, undef, undef, undef, undef], defers := [] } ∧ St w w_ [(B24, C24, t24), (B23, C23, t23), (B21, C21, t21), (B20, C20, t20), (B16, C16, t16), (B15, C15, t15), (B11, C11, t11), (B10, C10, t10), (B9, C9, ([6] : List Int)), (B8, C8, ([1] : List Int)), (B4, C4, t4), (B3, C3, t3), (B2, C2, ([4] : List Int)), (B1, C1, ([2] : List Int))] [(g27, #[.slice B23 t23.length C23, .slice B24 t24.length C24], 27), (g19, #[.slice B15 t15.length C15, .slice B16 t16.length C16], 27), (g14, #[.slice B10 t10.length C10, .slice B11 t11.length C11], 27), (g7, #[.slice B3 t3.length C3, .slice B4 t4.length C4], 27)] ∧ ((rat_Sub.f k t10 t11 t3 t4).bind fun b28 => ((rat_Cmp.f k t10 t11 t3 t4).bind fun b33 => (if t5 = 0 then (if t12 = 0 then (if t17 = 0 then ((rat_Text.f k t15 t16).bind fun t39 => (if t39.toList = ([50, 47, 51] : List UInt8) then (if t25 = 7 then (if b28.2.2 = 1 then (if b33.1 = -1 then (if b33.2 = 0 then ((rat_Right.f k t3 t4).bind fun t46 => (if t46 = true then ((rat_Right.f k ([2] : List Int) ([4] : List Int)).bind fun t51 => (if t51 = true then (some (false)) else ((rat_Whole.f k 0).bind fun b54 => ((rat_Text.f k b54.1 b54.2).bind fun t57 => (some ((t57.toList == ([48, 47, 49] : List UInt8)))))))) else (some (false)))) else (some (false))) else (some (false))) else (some (false))) else (some (false))) else (some (false)))) else (some (false))) else (some (false))) else (some (false))))) = some r0) ?cutA ?cutB
      case' cutA =>
        have S := S.drew
        refine start_ (n := 9) (S := fun w' => w'.cell? ⟨g7, 0, none⟩ = some (.slice B3 t3.length C3) ∧ w'.cell? ⟨g7, 1, none⟩ = some (.slice B4 t4.length C4)) (ds := []) #[false, false, false, false, false, false, false, false, false] (by kernel_rfl) rfl rfl ⟨S.cell 2 rfl 0 rfl, S.cell 2 rfl 1 rfl⟩ (fun hHeld => ?_)
        refine with_tabW samphirelaw03_awake.tab4 samphirelaw03_awake.bits4 (fun HT_ HW_ => ?_)
        generalize World.drew _ = w1_ at S hHeld ⊢
        refine take_ (i := 0) (N := some 32) (v := ?_) (a' := ?_) #[true, false, false, false, false, false, false, false, false] rfl rfl (take_ofW HT_.out HW_.out (by kernel_rfl)) (fun _ _ _ h => h) (Or.inl ⟨by rfl, ?_⟩) hHeld ?_ ?_
        rotate_left
        · rintro w' ⟨s0, s1⟩
          go_simp
          try with_reducible rfl
        rotate_left
        · simp only [Act.put, List.setIfInBounds_toArray, List.set_cons_zero, List.set_cons_succ, i64_w, i32_w]
          rfl
        refine two_ (i := 1) (j := 6) (Ni := some 33) (Nj := some 7) #[true, true, false, false, false, false, false, false, false] #[true, false, false, false, false, false, true, false, false] rfl rfl rfl rfl (two_of HT_.out (by kernel_rfl)) (by decide) (by decide) (fun K hK => ?o4_1_1a) (fun K hK => ?o4_1_1b)
        case' o4_1_1a =>
          refine goes_ Tryd.func12 (by kernel_rfl) rfl #[.int .u64 0] (by rfl) rfl rfl EQ ?_
          obtain ⟨⟨t20, t21⟩, H22, H⟩ := bind_p H
          dsimp only at H
          refine (rat_Whole.sc k 0 t20 t21 _ H22).mono ?_
          rintro _ w1_ ⟨B20, C20, B21, C21, rfl, ut20, ut21, hb⟩
          refine ⟨_, rfl, ?_⟩
          replace S := ((S.step hb).add ut20).add ut21
          clear ut20 ut21 hb H22
          refine hK.out _ _ ⟨S.cell 2 rfl 0 rfl, S.cell 2 rfl 1 rfl⟩ (fun hHeld => ?_)
          clear hK K
          refine norm_ (a' := ?_) ?_ ?_
          rotate_left
          · show Act.put _ (some 33) _ = _
            simp only [Act.put, List.setIfInBounds_toArray, List.set_cons_zero, List.set_cons_succ, i64_w, i32_w]
            rfl
          refine two_ (i := 2) (j := 6) (Ni := some 34) (Nj := some 7) #[true, true, true, false, false, false, false, false, false] #[true, true, false, false, false, false, true, false, false] rfl rfl rfl rfl (two_of HT_.out (by kernel_rfl)) (by decide) (by decide) (fun K hK => ?o4_2_2a) (fun K hK => ?o4_2_2b)
          case' o4_2_2a =>
            refine goes_ Tryd.func24 (by kernel_rfl) rfl #[.agg #[.slice B3 t3.length C3, .slice B4 t4.length C4], .agg #[.slice B20 t20.length C20, .slice B21 t21.length C21]] (by rfl) rfl rfl EQ ?_
            obtain ⟨⟨t23, t24, t25⟩, H26, H⟩ := bind_p H
            dsimp only at H
            refine (rat_Div.sc k _ _ t3 _ _ t4 _ _ t20 _ _ t21 t23 t24 t25 _ (S.at 9 rfl) (S.at 8 rfl) (S.at 1 rfl) (S.at 0 rfl) H26).mono ?_
            rintro _ w1_ ⟨B23, C23, B24, C24, rfl, ut23, ut24, hb⟩
            refine ⟨_, rfl, ?_⟩
            replace S := ((S.step hb).add ut23).add ut24
            clear ut23 ut24 hb H26
            refine hK.out _ _ ⟨S.cell 2 rfl 0 rfl, S.cell 2 rfl 1 rfl⟩ (fun hHeld => ?_)
            clear hK K
            refine norm_ (a' := ?_) ?_ ?_
            rotate_left
            · show Act.put _ (some 34) _ = _
              simp only [Act.put, List.setIfInBounds_toArray, List.set_cons_zero, List.set_cons_succ, i64_w, i32_w]
              rfl
            refine pure_ (i := 3) (N := some 31) (v := ?_) (a' := ?_) #[true, true, true, true, false, false, false, false, false] rfl rfl (any_of HT_.out (by kernel_rfl)) (fun _ _ _ h => h) (Or.inl ⟨by rfl, ?_⟩) ?_ ?_
            rotate_left
            · intro w'
              go_simp
              try with_reducible rfl
            rotate_left
            · simp only [Act.put, List.setIfInBounds_toArray, List.set_cons_zero, List.set_cons_succ, i64_w, i32_w]
              rfl
            refine pure_ (i := 4) (N := some 35) (v := ?_) (a' := ?_) #[true, true, true, true, true, false, false, false, false] rfl rfl (any_of HT_.out (by kernel_rfl)) (fun _ _ _ h => h) (Or.inl ⟨by rfl, ?_⟩) ?_ ?_
            rotate_left
            · intro w'
              go_simp
              try with_reducible rfl
            rotate_left
            · simp only [Act.put, List.setIfInBounds_toArray, List.set_cons_zero, List.set_cons_succ, i64_w, i32_w]
              rfl
            refine pure_ (i := 5) (N := some 36) (v := ?_) (a' := ?_) #[true, true, true, true, true, true, false, false, false] rfl rfl (any_of HT_.out (by kernel_rfl)) (fun _ _ _ h => h) (Or.inl ⟨by rfl, ?_⟩) ?_ ?_
            rotate_left
            · intro w'
              go_simp
              try with_reducible rfl
            rotate_left
            · simp only [Act.put, List.setIfInBounds_toArray, List.set_cons_zero, List.set_cons_succ, i64_w, i32_w]
              rfl
            refine one_ (i := 6) (N := some 7) #[true, true, true, true, true, true, true, false, false] rfl rfl (one_of HT_.out (by kernel_rfl)) (by decide) (fun K hK => ?_)
            refine dr_box (some 7) S (by rfl) rfl #[.slice none 0 0, .slice none 0 0] 27 ?_ rfl ?_
            · first | (go_simp; done) | (go_simp; rfl)
            intro g27 w1_ S
            refine hK.out _ _ ⟨S.cell 3 rfl 0 rfl, S.cell 3 rfl 1 rfl⟩ (fun hHeld => ?_)
            clear hK K
            refine norm_ (a' := ?_) ?_ ?_
            rotate_left
            · show Act.put _ (some 7) _ = _
              simp only [Act.put, List.setIfInBounds_toArray, List.set_cons_zero, List.set_cons_succ, i64_w, i32_w]
              rfl
            refine one_ (i := 7) (N := none) #[true, true, true, true, true, true, true, true, false] rfl rfl (one_of HT_.out (by kernel_rfl)) (by decide) (fun K hK => ?_)
            refine dr_put2 S (by rfl) rfl 0 rfl 0 (.slice B23 t23.length C23) (.slice B24 t24.length C24) rfl rfl rfl rfl ?_ ?_
            · have z0 := S.cell 0 rfl 0 rfl; have y0 := S.frozen 0 rfl 0; have z1 := S.cell 0 rfl 1 rfl; have y1 := S.frozen 0 rfl 1; first | (go_simp; done) | (go_simp; rfl)
            intro w1_ S
            refine hK.out _ _ ⟨S.cell 3 rfl 0 rfl, S.cell 3 rfl 1 rfl⟩ (fun hHeld => ?_)
            clear hK K
            refine pure_ (i := 8) (N := some 8) (v := ?_) (a' := ?_) #[true, true, true, true, true, true, true, true, true] rfl rfl (any_of HT_.out (by kernel_rfl)) (fun _ _ _ h => h) (Or.inl ⟨by rfl, ?_⟩) ?_ ?_
            rotate_left
            · intro w'
              go_simp
              try with_reducible rfl
            rotate_left
            · simp only [Act.put, List.setIfInBounds_toArray, List.set_cons_zero, List.set_cons_succ, i64_w, i32_w]
              rfl
            refine done_ (done_of HT_.out (by kernel_rfl)) ?_
            exact ⟨t20, t21, B20, C20, B21, C21, t23, t24, t25, B23, C23, B24, C24, g27, rfl, S, H⟩
          case' o4_2_2b =>
            refine dr_box (some 7) S (by rfl) rfl #[.slice none 0 0, .slice none 0 0] 27 ?_ rfl ?_
            · first | (go_simp; done) | (go_simp; rfl)
            intro g27 w1_ S
            refine hK.out _ _ ⟨S.cell 3 rfl 0 rfl, S.cell 3 rfl 1 rfl⟩ (fun hHeld => ?_)
            clear hK K
            refine norm_ (a' := ?_) ?_ ?_
            rotate_left
            · show Act.put _ (some 7) _ = _
              simp only [Act.put, List.setIfInBounds_toArray, List.set_cons_zero, List.set_cons_succ, i64_w, i32_w]
              rfl
            refine one_ (i := 2) (N := some 34) #[true, true, true, false, false, false, true, false, false] rfl rfl (one_of HT_.out (by kernel_rfl)) (by decide) (fun K hK => ?_)
            refine goes_ Tryd.func24 (by kernel_rfl) rfl #[.agg #[.slice B3 t3.length C3, .slice B4 t4.length C4], .agg #[.slice B20 t20.length C20, .slice B21 t21.length C21]] (by rfl) rfl rfl EQ ?_
            obtain ⟨⟨t23, t24, t25⟩, H26, H⟩ := bind_p H
            dsimp only at H
            refine (rat_Div.sc k _ _ t3 _ _ t4 _ _ t20 _ _ t21 t23 t24 t25 _ (S.at 9 rfl) (S.at 8 rfl) (S.at 1 rfl) (S.at 0 rfl) H26).mono ?_
            rintro _ w1_ ⟨B23, C23, B24, C24, rfl, ut23, ut24, hb⟩
            refine ⟨_, rfl, ?_⟩
            replace S := ((S.step hb).add ut23).add ut24
            clear ut23 ut24 hb H26
            refine hK.out _ _ ⟨S.cell 3 rfl 0 rfl, S.cell 3 rfl 1 rfl⟩ (fun hHeld => ?_)
            clear hK K
            refine norm_ (a' := ?_) ?_ ?_
            rotate_left
            · show Act.put _ (some 34) _ = _
              simp only [Act.put, List.setIfInBounds_toArray, List.set_cons_zero, List.set_cons_succ, i64_w, i32_w]
              rfl
            refine pure_ (i := 3) (N := some 31) (v := ?_) (a' := ?_) #[true, true, true, true, false, false, true, false, false] rfl rfl (any_of HT_.out (by kernel_rfl)) (fun _ _ _ h => h) (Or.inl ⟨by rfl, ?_⟩) ?_ ?_
            rotate_left
            · intro w'
              go_simp
              try with_reducible rfl
            rotate_left
            · simp only [Act.put, List.setIfInBounds_toArray, List.set_cons_zero, List.set_cons_succ, i64_w, i32_w]
              rfl
            refine pure_ (i := 4) (N := some 35) (v := ?_) (a' := ?_) #[true, true, true, true, true, false, true, false, false] rfl rfl (any_of HT_.out (by kernel_rfl)) (fun _ _ _ h => h) (Or.inl ⟨by rfl, ?_⟩) ?_ ?_
            rotate_left
            · intro w'
              go_simp
              try with_reducible rfl
            rotate_left
            · simp only [Act.put, List.setIfInBounds_toArray, List.set_cons_zero, List.set_cons_succ, i64_w, i32_w]
              rfl
            refine pure_ (i := 5) (N := some 36) (v := ?_) (a' := ?_) #[true, true, true, true, true, true, true, false, false] rfl rfl (any_of HT_.out (by kernel_rfl)) (fun _ _ _ h => h) (Or.inl ⟨by rfl, ?_⟩) ?_ ?_
            rotate_left
            · intro w'
              go_simp
              try with_reducible rfl
            rotate_left
            · simp only [Act.put, List.setIfInBounds_toArray, List.set_cons_zero, List.set_cons_succ, i64_w, i32_w]
              rfl
            refine one_ (i := 7) (N := none) #[true, true, true, true, true, true, true, true, false] rfl rfl (one_of HT_.out (by kernel_rfl)) (by decide) (fun K hK => ?_)
            refine dr_put2 S (by rfl) rfl 0 rfl 0 (.slice B23 t23.length C23) (.slice B24 t24.length C24) rfl rfl rfl rfl ?_ ?_
            · have z0 := S.cell 0 rfl 0 rfl; have y0 := S.frozen 0 rfl 0; have z1 := S.cell 0 rfl 1 rfl; have y1 := S.frozen 0 rfl 1; first | (go_simp; done) | (go_simp; rfl)
            intro w1_ S
            refine hK.out _ _ ⟨S.cell 3 rfl 0 rfl, S.cell 3 rfl 1 rfl⟩ (fun hHeld => ?_)
            clear hK K
            refine pure_ (i := 8) (N := some 8) (v := ?_) (a' := ?_) #[true, true, true, true, true, true, true, true, true] rfl rfl (any_of HT_.out (by kernel_rfl)) (fun _ _ _ h => h) (Or.inl ⟨by rfl, ?_⟩) ?_ ?_
            rotate_left
            · intro w'
              go_simp
              try with_reducible rfl
            rotate_left
            · simp only [Act.put, List.setIfInBounds_toArray, List.set_cons_zero, List.set_cons_succ, i64_w, i32_w]
              rfl
            refine done_ (done_of HT_.out (by kernel_rfl)) ?_
            exact ⟨t20, t21, B20, C20, B21, C21, t23, t24, t25, B23, C23, B24, C24, g27, rfl, S, H⟩
        case' o4_1_1b =>
          refine dr_box (some 7) S (by rfl) rfl #[.slice none 0 0, .slice none 0 0] 27 ?_ rfl ?_
          · first | (go_simp; done) | (go_simp; rfl)
          intro g27 w1_ S
          refine hK.out _ _ ⟨S.cell 3 rfl 0 rfl, S.cell 3 rfl 1 rfl⟩ (fun hHeld => ?_)
          clear hK K
          refine norm_ (a' := ?_) ?_ ?_
          rotate_left
          · show Act.put _ (some 7) _ = _
            simp only [Act.put, List.setIfInBounds_toArray, List.set_cons_zero, List.set_cons_succ, i64_w, i32_w]
            rfl
          refine one_ (i := 1) (N := some 33) #[true, true, false, false, false, false, true, false, false] rfl rfl (one_of HT_.out (by kernel_rfl)) (by decide) (fun K hK => ?_)
          refine goes_ Tryd.func12 (by kernel_rfl) rfl #[.int .u64 0] (by rfl) rfl rfl EQ ?_
          obtain ⟨⟨t20, t21⟩, H22, H⟩ := bind_p H
          dsimp only at H
          refine (rat_Whole.sc k 0 t20 t21 _ H22).mono ?_
          rintro _ w1_ ⟨B20, C20, B21, C21, rfl, ut20, ut21, hb⟩
          refine ⟨_, rfl, ?_⟩
          replace S := ((S.step hb).add ut20).add ut21
          clear ut20 ut21 hb H22
          refine hK.out _ _ ⟨S.cell 3 rfl 0 rfl, S.cell 3 rfl 1 rfl⟩ (fun hHeld => ?_)
          clear hK K
          refine norm_ (a' := ?_) ?_ ?_
          rotate_left
          · show Act.put _ (some 33) _ = _
            simp only [Act.put, List.setIfInBounds_toArray, List.set_cons_zero, List.set_cons_succ, i64_w, i32_w]
            rfl
          refine one_ (i := 2) (N := some 34) #[true, true, true, false, false, false, true, false, false] rfl rfl (one_of HT_.out (by kernel_rfl)) (by decide) (fun K hK => ?_)
          refine goes_ Tryd.func24 (by kernel_rfl) rfl #[.agg #[.slice B3 t3.length C3, .slice B4 t4.length C4], .agg #[.slice B20 t20.length C20, .slice B21 t21.length C21]] (by rfl) rfl rfl EQ ?_
          obtain ⟨⟨t23, t24, t25⟩, H26, H⟩ := bind_p H
          dsimp only at H
          refine (rat_Div.sc k _ _ t3 _ _ t4 _ _ t20 _ _ t21 t23 t24 t25 _ (S.at 9 rfl) (S.at 8 rfl) (S.at 1 rfl) (S.at 0 rfl) H26).mono ?_
          rintro _ w1_ ⟨B23, C23, B24, C24, rfl, ut23, ut24, hb⟩
          refine ⟨_, rfl, ?_⟩
          replace S := ((S.step hb).add ut23).add ut24
          clear ut23 ut24 hb H26
          refine hK.out _ _ ⟨S.cell 3 rfl 0 rfl, S.cell 3 rfl 1 rfl⟩ (fun hHeld => ?_)
          clear hK K
          refine norm_ (a' := ?_) ?_ ?_
          rotate_left
          · show Act.put _ (some 34) _ = _
            simp only [Act.put, List.setIfInBounds_toArray, List.set_cons_zero, List.set_cons_succ, i64_w, i32_w]
            rfl
          refine pure_ (i := 3) (N := some 31) (v := ?_) (a' := ?_) #[true, true, true, true, false, false, true, false, false] rfl rfl (any_of HT_.out (by kernel_rfl)) (fun _ _ _ h => h) (Or.inl ⟨by rfl, ?_⟩) ?_ ?_
          rotate_left
          · intro w'
            go_simp
            try with_reducible rfl
          rotate_left
          · simp only [Act.put, List.setIfInBounds_toArray, List.set_cons_zero, List.set_cons_succ, i64_w, i32_w]
            rfl
          refine pure_ (i := 4) (N := some 35) (v := ?_) (a' := ?_) #[true, true, true, true, true, false, true, false, false] rfl rfl (any_of HT_.out (by kernel_rfl)) (fun _ _ _ h => h) (Or.inl ⟨by rfl, ?_⟩) ?_ ?_
          rotate_left
          · intro w'
            go_simp
            try with_reducible rfl
          rotate_left
          · simp only [Act.put, List.setIfInBounds_toArray, List.set_cons_zero, List.set_cons_succ, i64_w, i32_w]
            rfl
          refine pure_ (i := 5) (N := some 36) (v := ?_) (a' := ?_) #[true, true, true, true, true, true, true, false, false] rfl rfl (any_of HT_.out (by kernel_rfl)) (fun _ _ _ h => h) (Or.inl ⟨by rfl, ?_⟩) ?_ ?_
          rotate_left
          · intro w'
            go_simp
            try with_reducible rfl
          rotate_left
          · simp only [Act.put, List.setIfInBounds_toArray, List.set_cons_zero, List.set_cons_succ, i64_w, i32_w]
            rfl
          refine one_ (i := 7) (N := none) #[true, true, true, true, true, true, true, true, false] rfl rfl (one_of HT_.out (by kernel_rfl)) (by decide) (fun K hK => ?_)
          refine dr_put2 S (by rfl) rfl 0 rfl 0 (.slice B23 t23.length C23) (.slice B24 t24.length C24) rfl rfl rfl rfl ?_ ?_
          · have z0 := S.cell 0 rfl 0 rfl; have y0 := S.frozen 0 rfl 0; have z1 := S.cell 0 rfl 1 rfl; have y1 := S.frozen 0 rfl 1; first | (go_simp; done) | (go_simp; rfl)
          intro w1_ S
          refine hK.out _ _ ⟨S.cell 3 rfl 0 rfl, S.cell 3 rfl 1 rfl⟩ (fun hHeld => ?_)
          clear hK K
          refine pure_ (i := 8) (N := some 8) (v := ?_) (a' := ?_) #[true, true, true, true, true, true, true, true, true] rfl rfl (any_of HT_.out (by kernel_rfl)) (fun _ _ _ h => h) (Or.inl ⟨by rfl, ?_⟩) ?_ ?_
          rotate_left
          · intro w'
            go_simp
            try with_reducible rfl
          rotate_left
          · simp only [Act.put, List.setIfInBounds_toArray, List.set_cons_zero, List.set_cons_succ, i64_w, i32_w]
            rfl
          refine done_ (done_of HT_.out (by kernel_rfl)) ?_
          exact ⟨t20, t21, B20, C20, B21, C21, t23, t24, t25, B23, C23, B24, C24, g27, rfl, S, H⟩
      case' cutB =>
        clear S H
        rintro _ w1_ ⟨t20, t21, B20, C20, B21, C21, t23, t24, t25, B23, C23, B24, C24, g27, rfl, S, H⟩
        have q0 := S.cell 2 rfl 0 rfl
        have q1 := S.cell 2 rfl 1 rfl
        have q2 := S.cell 3 rfl 0 rfl
        have q3 := S.cell 3 rfl 1 rfl)
    | ((with_reducible refine gate_d (N := 40) trivial rfl ?_); refine goesL_ (some 40) rfl rfl Tryd.func21 (by kernel_rfl) rfl #[.agg #[.slice B10 t10.length C10, .slice B11 t11.length C11], .agg #[.slice B3 t3.length C3, .slice B4 t4.length C4]] rfl EQ ?_; (try clear q0); (try clear q1); (try clear q2); (try clear q3); obtain ⟨⟨t28, t29, t30⟩, H31, H⟩ := bind_p H; dsimp only at H; refine (rat_Sub.sc k _ _ t10 _ _ t11 _ _ t3 _ _ t4 t28 t29 t30 _ (S.at 7 rfl) (S.at 6 rfl) (S.at 11 rfl) (S.at 10 rfl) H31).mono ?_; rintro _ w1_ ⟨B28, C28, B29, C29, rfl, ut28, ut29, hb⟩; refine ⟨_, rfl, ?_⟩; replace S := ((S.step hb).add ut28).add ut29; clear ut28 ut29 hb H31)
    | ((with_reducible refine gate_d (N := 9) trivial rfl ?_); (try clear q0); (try clear q1); (try clear q2); (try clear q3); refine ev_box 9 rfl S rfl #[.slice none 0 0, .slice none 0 0] 27 ?hr rfl ?_; (case hr => first | (go_simp; done) | (go_simp; rfl)); intro g32 w1_ S)
    | ((with_reducible refine gate_s (t := 27) (q := 9) trivial rfl ?_); (try clear q0); (try clear q1); (try clear q2); (try clear q3); refine ev_put2 rfl S rfl rfl 0 rfl 0 (.slice B28 t28.length C28) (.slice B29 t29.length C29) rfl rfl rfl rfl ?hr ?_; (case hr => have z0 := S.cell 0 rfl 0 rfl; have y0 := S.frozen 0 rfl 0; have z1 := S.cell 0 rfl 1 rfl; have y1 := S.frozen 0 rfl 1; first | (go_simp; done) | (go_simp; rfl)); intro w1_ S; have q0 := S.cell 3 rfl 0 rfl; have q1 := S.cell 3 rfl 1 rfl; have q2 := S.cell 4 rfl 0 rfl; have q3 := S.cell 4 rfl 1 rfl)
    | ((with_reducible refine gate_d (N := 46) trivial rfl ?_); refine goesL_ (some 46) rfl rfl Tryd.func20 (by kernel_rfl) rfl #[.agg #[.slice B10 t10.length C10, .slice B11 t11.length C11], .agg #[.slice B3 t3.length C3, .slice B4 t4.length C4]] rfl EQ ?_; (try clear q0); (try clear q1); (try clear q2); (try clear q3); obtain ⟨⟨t33, t34⟩, H35, H⟩ := bind_p H; dsimp only at H; refine (rat_Cmp.sc k _ _ t10 _ _ t11 _ _ t3 _ _ t4 t33 t34 _ (S.at 9 rfl) (S.at 8 rfl) (S.at 13 rfl) (S.at 12 rfl) H35).mono ?_; rintro _ w1_ ⟨rfl, hb⟩; refine ⟨_, rfl, ?_⟩; replace S := S.step hb; clear  hb H35; have q0 := S.cell 2 rfl 0 rfl; have q1 := S.cell 2 rfl 1 rfl; revert H; refine w_eq (fun d36t d36t' => w_eq (fun d37t d37t' => w_eq (fun d38t d38t' => fun H => ?_) (fun d38f d38f' => fun H => ?_)) (fun d37f d37f' => fun H => ?_)) (fun d36f d36f' => fun H => ?_))
    | ((with_reducible refine gate_d (N := 61) d38t rfl ?_); (try (refine gate_guard (by rfl) ?_; dsimp only)); refine goesL_ (some 61) rfl rfl Tryd.func26 (by kernel_rfl) rfl #[.agg #[.slice B15 t15.length C15, .slice B16 t16.length C16]] rfl EQ ?_; (try clear q0); (try clear q1); (try clear q2); (try clear q3); obtain ⟨t39, H40, H⟩ := bind_p H; refine (rat_Text.sc k _ _ t15 _ _ t16 t39 _ (S.at 7 rfl) (S.at 6 rfl) H40).mono ?_; rintro _ w1_ ⟨rfl, hb⟩; refine ⟨_, rfl, ?_⟩; replace S := S.step hb; clear  hb H40; have q0 := S.cell 4 rfl 0 rfl; have q1 := S.cell 4 rfl 1 rfl; revert H; refine w_eqs (fun d41t d41t' => w_eq (fun d42t d42t' => w_eq (fun d43t d43t' => w_eq (fun d44t d44t' => w_eq (fun d45t d45t' => fun H => ?_) (fun d45f d45f' => fun H => ?_)) (fun d44f d44f' => fun H => ?_)) (fun d43f d43f' => fun H => ?_)) (fun d42f d42f' => fun H => ?_)) (fun d41f d41f' => fun H => ?_))
    | ((with_reducible refine gate_d (N := 82) d45t rfl ?_); (try (refine gate_guard (by rfl) ?_; dsimp only)); refine goesL_ (some 82) rfl rfl Tryd.func18 (by kernel_rfl) rfl #[.agg #[.slice B3 t3.length C3, .slice B4 t4.length C4]] rfl EQ ?_; (try clear q0); (try clear q1); (try clear q2); (try clear q3); obtain ⟨t46, H47, H⟩ := bind_p H; refine (rat_Right.sc k _ _ t3 _ _ t4 t46 _ (S.at 13 rfl) (S.at 12 rfl) H47).mono ?_; rintro _ w1_ ⟨rfl, hb⟩; refine ⟨_, rfl, ?_⟩; replace S := S.step hb; clear  hb H47; revert H; refine w_b (fun d48t d48t' => fun H => ?_) (fun d48f d48f' => fun H => ?_))
    | ((with_reducible refine gate_d (N := 85) d48t rfl ?_); (try (refine gate_guard (by rfl) ?_; dsimp only)); (try clear q0); (try clear q1); (try clear q2); (try clear q3); refine ev_lit 85 rfl S rfl 34 ([2] : List Int) (by decide) ?hr ?_; (case hr => first | (go_simp; done) | (go_simp; rfl)); intro B49 C49 w1_ S)
    | ((with_reducible refine gate_d (N := 86) d48t rfl ?_); (try (refine gate_guard (by rfl) ?_; dsimp only)); (try clear q0); (try clear q1); (try clear q2); (try clear q3); refine ev_lit 86 rfl S rfl 34 ([4] : List Int) (by decide) ?hr ?_; (case hr => first | (go_simp; done) | (go_simp; rfl)); intro B50 C50 w1_ S)
    | ((with_reducible refine gate_d (N := 88) d48t rfl ?_); (try (refine gate_guard (by rfl) ?_; dsimp only)); refine goesL_ (some 88) rfl rfl Tryd.func18 (by kernel_rfl) rfl #[.agg #[.slice B49 ([2] : List Int).length C49, .slice B50 ([4] : List Int).length C50]] rfl EQ ?_; (try clear q0); (try clear q1); (try clear q2); (try clear q3); obtain ⟨t51, H52, H⟩ := bind_p H; refine (rat_Right.sc k _ _ ([2] : List Int) _ _ ([4] : List Int) t51 _ (S.at 1 rfl) (S.at 0 rfl) H52).mono ?_; rintro _ w1_ ⟨rfl, hb⟩; refine ⟨_, rfl, ?_⟩; replace S := S.step hb; clear  hb H52; revert H; refine w_b (fun d53t d53t' => fun H => ?_) (fun d53f d53f' => fun H => ?_))
    | ((with_reducible refine gate_d (N := 92) d53f rfl ?_); (try (refine gate_guard (by rfl) ?_; dsimp only)); refine goesL_ (some 92) rfl rfl Tryd.func12 (by kernel_rfl) rfl #[.int .u64 0] rfl EQ ?_; (try clear q0); (try clear q1); (try clear q2); (try clear q3); obtain ⟨⟨t54, t55⟩, H56, H⟩ := bind_p H; dsimp only at H; refine (rat_Whole.sc k 0 t54 t55 _ H56).mono ?_; rintro _ w1_ ⟨B54, C54, B55, C55, rfl, ut54, ut55, hb⟩; refine ⟨_, rfl, ?_⟩; replace S := ((S.step hb).add ut54).add ut55; clear ut54 ut55 hb H56)
    | ((with_reducible refine gate_d (N := 93) d53f rfl ?_); (try (refine gate_guard (by rfl) ?_; dsimp only)); refine goesL_ (some 93) rfl rfl Tryd.func26 (by kernel_rfl) rfl #[.agg #[.slice B54 t54.length C54, .slice B55 t55.length C55]] rfl EQ ?_; (try clear q0); (try clear q1); (try clear q2); (try clear q3); obtain ⟨t57, H58, H⟩ := bind_p H; refine (rat_Text.sc k _ _ t54 _ _ t55 t57 _ (S.at 1 rfl) (S.at 0 rfl) H58).mono ?_; rintro _ w1_ ⟨rfl, hb⟩; refine ⟨_, rfl, ?_⟩; replace S := S.step hb; clear  hb H58))
  all_goals first
    | (have _p := d53t; obtain rfl := Option.some.inj H; go_ret; exact ⟨rfl, S.below⟩)
    | (have _p := d53f; obtain rfl := Option.some.inj H; go_ret; exact ⟨rfl, S.below⟩)
    | (have _p := d48f; obtain rfl := Option.some.inj H; go_ret; exact ⟨rfl, S.below⟩)
    | (have _p := d45f; obtain rfl := Option.some.inj H; go_ret; exact ⟨rfl, S.below⟩)
    | (have _p := d44f; obtain rfl := Option.some.inj H; go_ret; exact ⟨rfl, S.below⟩)
    | (have _p := d43f; obtain rfl := Option.some.inj H; go_ret; exact ⟨rfl, S.below⟩)
    | (have _p := d42f; obtain rfl := Option.some.inj H; go_ret; exact ⟨rfl, S.below⟩)
    | (have _p := d41f; obtain rfl := Option.some.inj H; go_ret; exact ⟨rfl, S.below⟩)
    | (have _p := d38f; obtain rfl := Option.some.inj H; go_ret; exact ⟨rfl, S.below⟩)
    | (have _p := d37f; obtain rfl := Option.some.inj H; go_ret; exact ⟨rfl, S.below⟩)
    | (have _p := d36f; obtain rfl := Option.some.inj H; go_ret; exact ⟨rfl, S.below⟩)
end Go.Proofs.YtecbbenfcepohaaDoor.V
