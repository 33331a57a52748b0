-- Printed by this session's own program out of the translation.
import Derived.Test.YtecbbenfcepohaaDoorV6
import Derived.Test.YtecbbenfcepohaaDoorRX
import Derived.Test.YtecbbenfcepohaaDoorVD
namespace Go.Proofs.YtecbbenfcepohaaDoor.V
open Go.RowKit Go.Proofs.YtecbbenfcepohaaDoor.K Go.Proofs.YtecbbenfcepohaaDoorW.PrintWords Go.Proofs.YtecbbenfcepohaaDoorW.PrintLast Go.Proofs.YtecbbenfcepohaaDoorW.PrintMore Go.Proofs.YtecbbenfcepohaaDoor.RW
set_option linter.unusedVariables false
set_option linter.unusedSimpArgs false
def samphirelaw03_RatMiddle.T7 : Bool × List (List Nat × List Nat) := (true, [([], []), ([], []), ([0, 1, 1], [0, 1]), ([2], [2]), ([3], [3]), ([3], [3]), ([], []), ([6, 4, 2, 0, 1, 2, 3, 4, 6], [4, 6]), ([5, 7, 0, 1, 2, 3, 4, 5, 6, 7], [5])])
def samphirelaw03_RatMiddle.B7 : List Nat := [0, 0, 3, 7, 15, 15, 0, 95, 255]
theorem samphirelaw03_RatMiddle.tab7 : rtab .any (opsOf Tryd.f5 7) = samphirelaw03_RatMiddle.T7 := by kernel_rfl
theorem samphirelaw03_RatMiddle.bits7 : waitsOk samphirelaw03_RatMiddle.T7.2 samphirelaw03_RatMiddle.B7 = true := by kernel_rfl
set_option maxHeartbeats 8000000 in
set_option maxRecDepth 100000 in
theorem samphirelaw03_RatMiddle.sc (k : Nat) (A0_0 : Option Addr) (c0_0 : Nat) (l0_0 : List Int) (A0_1 : Option Addr) (c0_1 : Nat) (l0_1 : List Int) (A1_0 : Option Addr) (c1_0 : Nat) (l1_0 : List Int) (A1_1 : Option Addr) (c1_1 : Nat) (l1_1 : List Int) (r0 : Bool) (w : World) (h0_0 : Row w A0_0 c0_0 l0_0) (h0_1 : Row w A0_1 c0_1 l0_1) (h1_0 : Row w A1_0 c1_0 l1_0) (h1_1 : Row w A1_1 c1_1 l1_1) (h : Aside0 (samphirelaw03_RatMiddle.f k l0_0 l0_1 l1_0 l1_1 = some r0)) :
    Calls Tryd.prog 5 #[.agg #[.slice A0_0 l0_0.length c0_0, .slice A0_1 l0_1.length c0_1], .agg #[.slice A1_0 l1_0.length c1_0, .slice A1_1 l1_1.length c1_1]] w fun e w' => e = .returned (.bool r0) ∧ Below w.heap.size w w' := by
  have S := ((((St.start w).add h1_1).add h1_0).add h0_1).add h0_0
  have H := h.out
  unfold samphirelaw03_RatMiddle.f at H
  clear h h0_0 h0_1 h1_0 h1_1
  go_enter Tryd.func5, Tryd.ntmps5
  all_goals go_wp2_with (first
    | ((with_reducible refine gate_d (N := 20) d171 rfl ?_); refine goesL_ (some 20) rfl rfl Tryd.func10 (by kernel_rfl) rfl #[] rfl EQ ?_; (try clear q0); (try clear q1); (try clear q2); (try clear q3); replace H := bind_p H; obtain ⟨t172, H173, H⟩ := H; refine (samphirelaw03_awake.sc k t172 _ H173).mono ?_; rintro _ w1_ ⟨rfl, hb⟩; refine ⟨_, rfl, ?_⟩; replace S := S.step hb; clear  hb H173)
    | ((with_reducible refine gate_b (fn := Tryd.f19) d16f ?_); go_ret; refine ⟨_, rfl, ?_⟩; (try clear q0); (try clear q1); (try clear q2); (try clear q3); have d171 := trivial)
    | ((with_reducible refine gate_d (N := 20) d168 rfl ?_); refine goesL_ (some 20) rfl rfl Tryd.func10 (by kernel_rfl) rfl #[] rfl EQ ?_; (try clear q0); (try clear q1); (try clear q2); (try clear q3); replace H := bind_p H; obtain ⟨t169, H170, H⟩ := H; refine (samphirelaw03_awake.sc k t169 _ H170).mono ?_; rintro _ w1_ ⟨rfl, hb⟩; refine ⟨_, rfl, ?_⟩; replace S := S.step hb; clear  hb H170)
    | ((with_reducible refine gate_b (fn := Tryd.f19) d28f ?_); go_ret; refine ⟨_, rfl, ?_⟩; (try clear q0); (try clear q1); (try clear q2); (try clear q3); have d168 := trivial)
    | ((with_reducible refine gate_d (N := 71) d129t rfl ?_); (try (refine gate_guard (by rfl) ?_; dsimp only)); refine goesL_ (some 71) rfl rfl Tryd.func10 (by kernel_rfl) rfl #[] rfl EQ ?_; (try clear q0); (try clear q1); (try clear q2); (try clear q3); replace H := bind_p H; obtain ⟨t130, H131, H⟩ := H; refine (samphirelaw03_awake.sc k t130 _ H131).mono ?_; rintro _ w1_ ⟨rfl, hb⟩; refine ⟨_, rfl, ?_⟩; replace S := S.step hb; clear  hb H131)
    | ((with_reducible refine gate_d (N := 68) d126t rfl ?_); (try (refine gate_guard (by rfl) ?_; dsimp only)); refine goesL_ (some 68) rfl rfl Tryd.func22 (by kernel_rfl) rfl #[.agg #[.slice B114 t114.length C114, .slice B115 t115.length C115], .agg #[.slice B119 t119.length C119, .slice B120 t120.length C120]] rfl EQ ?_; (try clear q0); (try clear q1); (try clear q2); (try clear q3); replace H := bind_p H; obtain ⟨t127, H128, H⟩ := H; refine (samphireref03_Same.sc k _ _ t114 _ _ t115 _ _ t119 _ _ t120 t127 _ (S.at 3 rfl) (S.at 2 rfl) (S.at 1 rfl) (S.at 0 rfl) H128).mono ?_; rintro _ w1_ ⟨rfl, hb⟩; refine ⟨_, rfl, ?_⟩; replace S := S.step hb; clear  hb H128; revert H; refine w_b (fun d129t d129t' => fun H => ?_) (fun d129f d129f' => fun H => ?_))
    | ((with_reducible refine gate_s (t := 27) (q := 13) d33f rfl ?_); (try clear q0); (try clear q1); (try clear q2); (try clear q3); refine ev_put2 rfl S rfl rfl 0 rfl 0 (.slice B119 t119.length C119) (.slice B120 t120.length C120) rfl rfl rfl rfl ?hr ?_; (case hr => have z0 := S.cell 0 rfl 0 rfl; have y0 := S.frozen 0 rfl 0; have z1 := S.cell 0 rfl 1 rfl; have y1 := S.frozen 0 rfl 1; first | (go_simp; done) | (go_simp; rfl)); clear S; intro w1_ S; have q0 := S.cell 1 rfl 0 rfl; have q1 := S.cell 1 rfl 1 rfl; have q2 := S.cell 0 rfl 0 rfl; have q3 := S.cell 0 rfl 1 rfl; revert H; refine w_eq (fun d124t d124t' => w_eq (fun d125t d125t' => w_eq (fun d126t d126t' => fun H => ?_) (fun d126f d126f' => fun H => ?_)) (fun d125f d125f' => fun H => ?_)) (fun d124f d124f' => fun H => ?_))
    | ((with_reducible refine gate_d (N := 13) d33f rfl ?_); (try clear q0); (try clear q1); (try clear q2); (try clear q3); refine ev_box 13 rfl S rfl #[.slice none 0 0, .slice none 0 0] 27 ?hr rfl ?_; (case hr => first | (go_simp; done) | (go_simp; rfl)); clear S; intro g123 w1_ S)
    | ((with_reducible refine gate_d (N := 52) d33f rfl ?_); refine goesL_ (some 52) rfl rfl Tryd.func21 (by kernel_rfl) rfl #[.agg #[.slice A1_0 l1_0.length c1_0, .slice A1_1 l1_1.length c1_1], .agg #[.slice B109 t109.length C109, .slice B110 t110.length C110]] rfl EQ ?_; (try clear q0); (try clear q1); (try clear q2); (try clear q3); replace H := bind_p H; obtain ⟨⟨t119, t120, t121⟩, H122, H⟩ := H; dsimp only at H; refine (rat_Sub.sc k _ _ l1_0 _ _ l1_1 _ _ t109 _ _ t110 t119 t120 t121 _ (S.at 10 rfl) (S.at 11 rfl) (S.at 3 rfl) (S.at 2 rfl) H122).mono ?_; rintro _ w1_ ⟨B119, C119, B120, C120, rfl, ut119, ut120, hb⟩; refine ⟨_, rfl, ?_⟩; replace S := ((S.step hb).add ut119).add ut120; clear ut119 ut120 hb H122)
    | ((with_reducible refine gate_s (t := 27) (q := 11) d33f rfl ?_); (try clear q0); (try clear q1); (try clear q2); (try clear q3); refine ev_put2 rfl S rfl rfl 0 rfl 0 (.slice B114 t114.length C114) (.slice B115 t115.length C115) rfl rfl rfl rfl ?hr ?_; (case hr => have z0 := S.cell 0 rfl 0 rfl; have y0 := S.frozen 0 rfl 0; have z1 := S.cell 0 rfl 1 rfl; have y1 := S.frozen 0 rfl 1; first | (go_simp; done) | (go_simp; rfl)); clear S; intro w1_ S; have q0 := S.cell 6 rfl 0 rfl; have q1 := S.cell 6 rfl 1 rfl; have q2 := S.cell 1 rfl 0 rfl; have q3 := S.cell 1 rfl 1 rfl)
    | ((with_reducible refine gate_d (N := 11) d33f rfl ?_); (try clear q0); (try clear q1); (try clear q2); (try clear q3); refine ev_box 11 rfl S rfl #[.slice none 0 0, .slice none 0 0] 27 ?hr rfl ?_; (case hr => first | (go_simp; done) | (go_simp; rfl)); clear S; intro g118 w1_ S)
    | ((with_reducible refine gate_d (N := 46) d33f rfl ?_); refine goesL_ (some 46) rfl rfl Tryd.func21 (by kernel_rfl) rfl #[.agg #[.slice B109 t109.length C109, .slice B110 t110.length C110], .agg #[.slice A0_0 l0_0.length c0_0, .slice A0_1 l0_1.length c0_1]] rfl EQ ?_; (try clear q0); (try clear q1); (try clear q2); (try clear q3); replace H := bind_p H; obtain ⟨⟨t114, t115, t116⟩, H117, H⟩ := H; dsimp only at H; refine (rat_Sub.sc k _ _ t109 _ _ t110 _ _ l0_0 _ _ l0_1 t114 t115 t116 _ (S.at 1 rfl) (S.at 0 rfl) (S.at 6 rfl) (S.at 7 rfl) H117).mono ?_; rintro _ w1_ ⟨B114, C114, B115, C115, rfl, ut114, ut115, hb⟩; refine ⟨_, rfl, ?_⟩; replace S := ((S.step hb).add ut114).add ut115; clear ut114 ut115 hb H117)
    | (
      refine gate_w d33f ?_
      (try clear q0); (try clear q1); (try clear q2); (try clear q3)
      refine draw_cut (M := fun a w_ => ∃ (t106 : List Int) (t107 : List Int) (B106 : Option Addr) (C106 : Nat) (B107 : Option Addr) (C107 : Nat) (t109 : List Int) (t110 : List Int) (t111 : Int) (B109 : Option Addr) (C109 : Nat) (B110 : Option Addr) (C110 : Nat) (g113 : Nat), a = { tmps := #[.agg #[.slice A0_0 l0_0.length c0_0, .slice A0_1 l0_1.length c0_1], .agg #[.slice A1_0 l1_0.length c1_0, .slice A1_1 l1_1.length c1_1], .pointer (some ⟨g1, 0, none⟩), .pointer (some ⟨g2, 0, none⟩), .bool false, .int .i64 t30, .int .i64 t31, .pointer (some ⟨g105, 0, none⟩), .int .i64 t103, .pointer (some ⟨g113, 0, none⟩), .int .i64 t111, undef, undef, undef, undef, .agg #[.slice A0_0 l0_0.length c0_0, .slice A0_1 l0_1.length c0_1], .agg #[.slice A1_0 l1_0.length c1_0, .slice A1_1 l1_1.length c1_1], .slice (some ⟨g3, 0, none⟩) 2 2, .bool true, .bool false, undef, .tuple #[.int .i64 t30, .int .i64 t31], .agg #[.slice A0_0 l0_0.length c0_0, .slice A0_1 l0_1.length c0_1], .agg #[.slice A1_0 l1_0.length c1_0, .slice A1_1 l1_1.length c1_1], .tuple #[.int .i64 t30, .int .i64 t31], .int .i64 t30, .int .i64 t31, .int .i64 t30, .bool false, undef, undef, .tuple #[.agg #[.slice B101 t101.length C101, .slice B102 t102.length C102], .int .i64 t103], .agg #[.slice A0_0 l0_0.length c0_0, .slice A0_1 l0_1.length c0_1], .agg #[.slice A1_0 l1_0.length c1_0, .slice A1_1 l1_1.length c1_1], .tuple #[.agg #[.slice B101 t101.length C101, .slice B102 t102.length C102], .int .i64 t103], .agg #[.slice B101 t101.length C101, .slice B102 t102.length C102], .int .i64 t103, .tuple #[.agg #[.slice B109 t109.length C109, .slice B110 t110.length C110], .int .i64 t111], .agg #[.slice B101 t101.length C101, .slice B102 t102.length C102], .agg #[.slice B106 t106.length C106, .slice B107 t107.length C107], .tuple #[.agg #[.slice B109 t109.length C109, .slice B110 t110.length C110], .int .i64 t111], .agg #[.slice B109 t109.length C109, .slice B110 t110.length C110], .int .i64 t111, undef, undef, undef, undef, undef, undef, undef, undef, undef, undef, undef, undef, undef, undef, undef, undef, undef, undef, undef, undef, undef, undef, undef, undef, undef, undef, undef, undef, undef, undef], defers := [] } ∧ St w w_ [(B110, C110, t110), (B109, C109, t109), (B107, C107, t107), (B106, C106, t106), (B102, C102, t102), (B101, C101, t101), (A0_0, c0_0, l0_0), (A0_1, c0_1, l0_1), (A1_0, c1_0, l1_0), (A1_1, c1_1, l1_1)] [(g113, #[.slice B109 t109.length C109, .slice B110 t110.length C110], 27), (g105, #[.slice B101 t101.length C101, .slice B102 t102.length C102], 27), (g17, #[.slice A1_0 l1_0.length c1_0, .slice A1_1 l1_1.length c1_1], 27), (g5, #[.slice A0_0 l0_0.length c0_0, .slice A0_1 l0_1.length c0_1], 27), (g3, #[.slice A0_0 l0_0.length c0_0, .slice A0_1 l0_1.length c0_1, .slice A1_0 l1_0.length c1_0, .slice A1_1 l1_1.length c1_1], 27), (g2, #[.slice A1_0 l1_0.length c1_0, .slice A1_1 l1_1.length c1_1], 27), (g1, #[.slice A0_0 l0_0.length c0_0, .slice A0_1 l0_1.length c0_1], 27)] ∧ ((rat_Sub.f k t109 t110 l0_0 l0_1).bind fun b114 => ((rat_Sub.f k l1_0 l1_1 t109 t110).bind fun b119 => (if t111 = 0 then (if b114.2.2 = 0 then (if b119.2.2 = 0 then ((samphireref03_Same.f k b114.1 b114.2.1 b119.1 b119.2.1).bind fun t127 => (if t127 = true then ((samphirelaw03_awake.f k).bind fun t130 => (some (t130))) else (some (false)))) else (some (false))) else (some (false))) else (some (false))))) = some r0) ?cutA13 ?cutB13
      case' cutA13 =>
        replace S := S.drew
        refine start_ (n := 9) (S := fun w' => w'.cell? ⟨g105, 0, none⟩ = some (.slice B101 t101.length C101) ∧ w'.cell? ⟨g105, 1, none⟩ = some (.slice B102 t102.length C102)) (ds := []) #[false, false, false, false, false, false, false, false, false] (by kernel_rfl) rfl rfl ⟨S.cell 0 rfl 0 rfl, S.cell 0 rfl 1 rfl⟩ (fun hHeld => ?_)
        refine with_tabW samphirelaw03_RatMiddle.tab7 samphirelaw03_RatMiddle.bits7 (fun HT_ HW_ => ?_)
        generalize World.drew _ = w1_ at S hHeld ⊢
        refine take_ (i := 0) (N := some 38) (v := ?_) (a' := ?_) #[true, false, false, false, false, false, false, false, false] rfl rfl (take_ofW HT_.out HW_.out (by kernel_rfl)) (fun _ _ _ h => h) (Or.inl ⟨by rfl, ?_⟩) hHeld ?_ ?_
        rotate_left
        · rintro w' ⟨s0, s1⟩
          go_simp
          try with_reducible rfl
        rotate_left
        · simp only [Act.put, List.setIfInBounds_toArray, List.set_cons_zero, List.set_cons_succ, i64_w, i32_w]
          rfl
        refine two_ (i := 1) (j := 6) (Ni := some 39) (Nj := some 9) #[true, true, false, false, false, false, false, false, false] #[true, false, false, false, false, false, true, false, false] rfl rfl rfl rfl (two_of HT_.out (by kernel_rfl)) (by decide) (by decide) (fun K hK => ?o10_1a) (fun K hK => ?o10_1b)
        case' o10_1a =>
          refine goes_ Tryd.func12 (by kernel_rfl) rfl #[.int .u64 2] (by rfl) rfl rfl EQ ?_
          replace H := bind_p H
          obtain ⟨⟨t106, t107⟩, H108, H⟩ := H
          dsimp only at H
          refine (rat_Whole.sc k 2 t106 t107 _ H108).mono ?_
          rintro _ w1_ ⟨B106, C106, B107, C107, rfl, ut106, ut107, hb⟩
          refine ⟨_, rfl, ?_⟩
          replace S := ((S.step hb).add ut106).add ut107
          clear ut106 ut107 hb H108
          clear hHeld
          refine hK.out _ _ ⟨S.cell 0 rfl 0 rfl, S.cell 0 rfl 1 rfl⟩ (fun hHeld => ?_)
          clear hK K
          refine norm_ (a' := ?_) ?_ ?_
          rotate_left
          · show Act.put _ (some 39) _ = _
            simp only [Act.put, List.setIfInBounds_toArray, List.set_cons_zero, List.set_cons_succ, i64_w, i32_w]
            rfl
          refine two_ (i := 2) (j := 6) (Ni := some 40) (Nj := some 9) #[true, true, true, false, false, false, false, false, false] #[true, true, false, false, false, false, true, false, false] rfl rfl rfl rfl (two_of HT_.out (by kernel_rfl)) (by decide) (by decide) (fun K hK => ?o11_2a) (fun K hK => ?o11_2b)
          case' o11_2a =>
            refine goes_ Tryd.func24 (by kernel_rfl) rfl #[.agg #[.slice B101 t101.length C101, .slice B102 t102.length C102], .agg #[.slice B106 t106.length C106, .slice B107 t107.length C107]] (by rfl) rfl rfl EQ ?_
            replace H := bind_p H
            obtain ⟨⟨t109, t110, t111⟩, H112, H⟩ := H
            dsimp only at H
            refine (rat_Div.sc k _ _ t101 _ _ t102 _ _ t106 _ _ t107 t109 t110 t111 _ (S.at 3 rfl) (S.at 2 rfl) (S.at 1 rfl) (S.at 0 rfl) H112).mono ?_
            rintro _ w1_ ⟨B109, C109, B110, C110, rfl, ut109, ut110, hb⟩
            refine ⟨_, rfl, ?_⟩
            replace S := ((S.step hb).add ut109).add ut110
            clear ut109 ut110 hb H112
            clear hHeld
            refine hK.out _ _ ⟨S.cell 0 rfl 0 rfl, S.cell 0 rfl 1 rfl⟩ (fun hHeld => ?_)
            clear hK K
            refine norm_ (a' := ?_) ?_ ?_
            rotate_left
            · show Act.put _ (some 40) _ = _
              simp only [Act.put, List.setIfInBounds_toArray, List.set_cons_zero, List.set_cons_succ, i64_w, i32_w]
              rfl
            refine pure_ (i := 3) (N := some 37) (v := ?_) (a' := ?_) #[true, true, true, true, false, false, false, false, false] rfl rfl (any_of HT_.out (by kernel_rfl)) (fun _ _ _ h => h) (Or.inl ⟨by rfl, ?_⟩) ?_ ?_
            rotate_left
            · intro w'
              go_simp
              try with_reducible rfl
            rotate_left
            · simp only [Act.put, List.setIfInBounds_toArray, List.set_cons_zero, List.set_cons_succ, i64_w, i32_w]
              rfl
            refine pure_ (i := 4) (N := some 41) (v := ?_) (a' := ?_) #[true, true, true, true, true, false, false, false, false] rfl rfl (any_of HT_.out (by kernel_rfl)) (fun _ _ _ h => h) (Or.inl ⟨by rfl, ?_⟩) ?_ ?_
            rotate_left
            · intro w'
              go_simp
              try with_reducible rfl
            rotate_left
            · simp only [Act.put, List.setIfInBounds_toArray, List.set_cons_zero, List.set_cons_succ, i64_w, i32_w]
              rfl
            refine pure_ (i := 5) (N := some 42) (v := ?_) (a' := ?_) #[true, true, true, true, true, true, false, false, false] rfl rfl (any_of HT_.out (by kernel_rfl)) (fun _ _ _ h => h) (Or.inl ⟨by rfl, ?_⟩) ?_ ?_
            rotate_left
            · intro w'
              go_simp
              try with_reducible rfl
            rotate_left
            · simp only [Act.put, List.setIfInBounds_toArray, List.set_cons_zero, List.set_cons_succ, i64_w, i32_w]
              rfl
            refine one_ (i := 6) (N := some 9) #[true, true, true, true, true, true, true, false, false] rfl rfl (one_of HT_.out (by kernel_rfl)) (by decide) (fun K hK => ?_)
            refine dr_box (some 9) S (by rfl) rfl #[.slice none 0 0, .slice none 0 0] 27 ?_ rfl ?_
            · first | (go_simp; done) | (go_simp; rfl)
            clear S
            intro g113 w1_ S
            clear hHeld
            refine hK.out _ _ ⟨S.cell 1 rfl 0 rfl, S.cell 1 rfl 1 rfl⟩ (fun hHeld => ?_)
            clear hK K
            refine norm_ (a' := ?_) ?_ ?_
            rotate_left
            · show Act.put _ (some 9) _ = _
              simp only [Act.put, List.setIfInBounds_toArray, List.set_cons_zero, List.set_cons_succ, i64_w, i32_w]
              rfl
            refine one_ (i := 7) (N := none) #[true, true, true, true, true, true, true, true, false] rfl rfl (one_of HT_.out (by kernel_rfl)) (by decide) (fun K hK => ?_)
            refine dr_put2 S (by rfl) rfl 0 rfl 0 (.slice B109 t109.length C109) (.slice B110 t110.length C110) rfl rfl rfl rfl ?_ ?_
            · have z0 := S.cell 0 rfl 0 rfl; have y0 := S.frozen 0 rfl 0; have z1 := S.cell 0 rfl 1 rfl; have y1 := S.frozen 0 rfl 1; first | (go_simp; done) | (go_simp; rfl)
            clear S
            intro w1_ S
            clear hHeld
            refine hK.out _ _ ⟨S.cell 1 rfl 0 rfl, S.cell 1 rfl 1 rfl⟩ (fun hHeld => ?_)
            clear hK K
            refine pure_ (i := 8) (N := some 10) (v := ?_) (a' := ?_) #[true, true, true, true, true, true, true, true, true] rfl rfl (any_of HT_.out (by kernel_rfl)) (fun _ _ _ h => h) (Or.inl ⟨by rfl, ?_⟩) ?_ ?_
            rotate_left
            · intro w'
              go_simp
              try with_reducible rfl
            rotate_left
            · simp only [Act.put, List.setIfInBounds_toArray, List.set_cons_zero, List.set_cons_succ, i64_w, i32_w]
              rfl
            refine done_ (done_of HT_.out (by kernel_rfl)) ?_
            exact ⟨t106, t107, B106, C106, B107, C107, t109, t110, t111, B109, C109, B110, C110, g113, rfl, S, H⟩
          case' o11_2b =>
            refine dr_box (some 9) S (by rfl) rfl #[.slice none 0 0, .slice none 0 0] 27 ?_ rfl ?_
            · first | (go_simp; done) | (go_simp; rfl)
            clear S
            intro g113 w1_ S
            clear hHeld
            refine hK.out _ _ ⟨S.cell 1 rfl 0 rfl, S.cell 1 rfl 1 rfl⟩ (fun hHeld => ?_)
            clear hK K
            refine norm_ (a' := ?_) ?_ ?_
            rotate_left
            · show Act.put _ (some 9) _ = _
              simp only [Act.put, List.setIfInBounds_toArray, List.set_cons_zero, List.set_cons_succ, i64_w, i32_w]
              rfl
            refine one_ (i := 2) (N := some 40) #[true, true, true, false, false, false, true, false, false] rfl rfl (one_of HT_.out (by kernel_rfl)) (by decide) (fun K hK => ?_)
            refine goes_ Tryd.func24 (by kernel_rfl) rfl #[.agg #[.slice B101 t101.length C101, .slice B102 t102.length C102], .agg #[.slice B106 t106.length C106, .slice B107 t107.length C107]] (by rfl) rfl rfl EQ ?_
            replace H := bind_p H
            obtain ⟨⟨t109, t110, t111⟩, H112, H⟩ := H
            dsimp only at H
            refine (rat_Div.sc k _ _ t101 _ _ t102 _ _ t106 _ _ t107 t109 t110 t111 _ (S.at 3 rfl) (S.at 2 rfl) (S.at 1 rfl) (S.at 0 rfl) H112).mono ?_
            rintro _ w1_ ⟨B109, C109, B110, C110, rfl, ut109, ut110, hb⟩
            refine ⟨_, rfl, ?_⟩
            replace S := ((S.step hb).add ut109).add ut110
            clear ut109 ut110 hb H112
            clear hHeld
            refine hK.out _ _ ⟨S.cell 1 rfl 0 rfl, S.cell 1 rfl 1 rfl⟩ (fun hHeld => ?_)
            clear hK K
            refine norm_ (a' := ?_) ?_ ?_
            rotate_left
            · show Act.put _ (some 40) _ = _
              simp only [Act.put, List.setIfInBounds_toArray, List.set_cons_zero, List.set_cons_succ, i64_w, i32_w]
              rfl
            refine pure_ (i := 3) (N := some 37) (v := ?_) (a' := ?_) #[true, true, true, true, false, false, true, false, false] rfl rfl (any_of HT_.out (by kernel_rfl)) (fun _ _ _ h => h) (Or.inl ⟨by rfl, ?_⟩) ?_ ?_
            rotate_left
            · intro w'
              go_simp
              try with_reducible rfl
            rotate_left
            · simp only [Act.put, List.setIfInBounds_toArray, List.set_cons_zero, List.set_cons_succ, i64_w, i32_w]
              rfl
            refine pure_ (i := 4) (N := some 41) (v := ?_) (a' := ?_) #[true, true, true, true, true, false, true, false, false] rfl rfl (any_of HT_.out (by kernel_rfl)) (fun _ _ _ h => h) (Or.inl ⟨by rfl, ?_⟩) ?_ ?_
            rotate_left
            · intro w'
              go_simp
              try with_reducible rfl
            rotate_left
            · simp only [Act.put, List.setIfInBounds_toArray, List.set_cons_zero, List.set_cons_succ, i64_w, i32_w]
              rfl
            refine pure_ (i := 5) (N := some 42) (v := ?_) (a' := ?_) #[true, true, true, true, true, true, true, false, false] rfl rfl (any_of HT_.out (by kernel_rfl)) (fun _ _ _ h => h) (Or.inl ⟨by rfl, ?_⟩) ?_ ?_
            rotate_left
            · intro w'
              go_simp
              try with_reducible rfl
            rotate_left
            · simp only [Act.put, List.setIfInBounds_toArray, List.set_cons_zero, List.set_cons_succ, i64_w, i32_w]
              rfl
            refine one_ (i := 7) (N := none) #[true, true, true, true, true, true, true, true, false] rfl rfl (one_of HT_.out (by kernel_rfl)) (by decide) (fun K hK => ?_)
            refine dr_put2 S (by rfl) rfl 0 rfl 0 (.slice B109 t109.length C109) (.slice B110 t110.length C110) rfl rfl rfl rfl ?_ ?_
            · have z0 := S.cell 0 rfl 0 rfl; have y0 := S.frozen 0 rfl 0; have z1 := S.cell 0 rfl 1 rfl; have y1 := S.frozen 0 rfl 1; first | (go_simp; done) | (go_simp; rfl)
            clear S
            intro w1_ S
            clear hHeld
            refine hK.out _ _ ⟨S.cell 1 rfl 0 rfl, S.cell 1 rfl 1 rfl⟩ (fun hHeld => ?_)
            clear hK K
            refine pure_ (i := 8) (N := some 10) (v := ?_) (a' := ?_) #[true, true, true, true, true, true, true, true, true] rfl rfl (any_of HT_.out (by kernel_rfl)) (fun _ _ _ h => h) (Or.inl ⟨by rfl, ?_⟩) ?_ ?_
            rotate_left
            · intro w'
              go_simp
              try with_reducible rfl
            rotate_left
            · simp only [Act.put, List.setIfInBounds_toArray, List.set_cons_zero, List.set_cons_succ, i64_w, i32_w]
              rfl
            refine done_ (done_of HT_.out (by kernel_rfl)) ?_
            exact ⟨t106, t107, B106, C106, B107, C107, t109, t110, t111, B109, C109, B110, C110, g113, rfl, S, H⟩
        case' o10_1b =>
          refine dr_box (some 9) S (by rfl) rfl #[.slice none 0 0, .slice none 0 0] 27 ?_ rfl ?_
          · first | (go_simp; done) | (go_simp; rfl)
          clear S
          intro g113 w1_ S
          clear hHeld
          refine hK.out _ _ ⟨S.cell 1 rfl 0 rfl, S.cell 1 rfl 1 rfl⟩ (fun hHeld => ?_)
          clear hK K
          refine norm_ (a' := ?_) ?_ ?_
          rotate_left
          · show Act.put _ (some 9) _ = _
            simp only [Act.put, List.setIfInBounds_toArray, List.set_cons_zero, List.set_cons_succ, i64_w, i32_w]
            rfl
          refine one_ (i := 1) (N := some 39) #[true, true, false, false, false, false, true, false, false] rfl rfl (one_of HT_.out (by kernel_rfl)) (by decide) (fun K hK => ?_)
          refine goes_ Tryd.func12 (by kernel_rfl) rfl #[.int .u64 2] (by rfl) rfl rfl EQ ?_
          replace H := bind_p H
          obtain ⟨⟨t106, t107⟩, H108, H⟩ := H
          dsimp only at H
          refine (rat_Whole.sc k 2 t106 t107 _ H108).mono ?_
          rintro _ w1_ ⟨B106, C106, B107, C107, rfl, ut106, ut107, hb⟩
          refine ⟨_, rfl, ?_⟩
          replace S := ((S.step hb).add ut106).add ut107
          clear ut106 ut107 hb H108
          clear hHeld
          refine hK.out _ _ ⟨S.cell 1 rfl 0 rfl, S.cell 1 rfl 1 rfl⟩ (fun hHeld => ?_)
          clear hK K
          refine norm_ (a' := ?_) ?_ ?_
          rotate_left
          · show Act.put _ (some 39) _ = _
            simp only [Act.put, List.setIfInBounds_toArray, List.set_cons_zero, List.set_cons_succ, i64_w, i32_w]
            rfl
          refine one_ (i := 2) (N := some 40) #[true, true, true, false, false, false, true, false, false] rfl rfl (one_of HT_.out (by kernel_rfl)) (by decide) (fun K hK => ?_)
          refine goes_ Tryd.func24 (by kernel_rfl) rfl #[.agg #[.slice B101 t101.length C101, .slice B102 t102.length C102], .agg #[.slice B106 t106.length C106, .slice B107 t107.length C107]] (by rfl) rfl rfl EQ ?_
          replace H := bind_p H
          obtain ⟨⟨t109, t110, t111⟩, H112, H⟩ := H
          dsimp only at H
          refine (rat_Div.sc k _ _ t101 _ _ t102 _ _ t106 _ _ t107 t109 t110 t111 _ (S.at 3 rfl) (S.at 2 rfl) (S.at 1 rfl) (S.at 0 rfl) H112).mono ?_
          rintro _ w1_ ⟨B109, C109, B110, C110, rfl, ut109, ut110, hb⟩
          refine ⟨_, rfl, ?_⟩
          replace S := ((S.step hb).add ut109).add ut110
          clear ut109 ut110 hb H112
          clear hHeld
          refine hK.out _ _ ⟨S.cell 1 rfl 0 rfl, S.cell 1 rfl 1 rfl⟩ (fun hHeld => ?_)
          clear hK K
          refine norm_ (a' := ?_) ?_ ?_
          rotate_left
          · show Act.put _ (some 40) _ = _
            simp only [Act.put, List.setIfInBounds_toArray, List.set_cons_zero, List.set_cons_succ, i64_w, i32_w]
            rfl
          refine pure_ (i := 3) (N := some 37) (v := ?_) (a' := ?_) #[true, true, true, true, false, false, true, false, false] rfl rfl (any_of HT_.out (by kernel_rfl)) (fun _ _ _ h => h) (Or.inl ⟨by rfl, ?_⟩) ?_ ?_
          rotate_left
          · intro w'
            go_simp
            try with_reducible rfl
          rotate_left
          · simp only [Act.put, List.setIfInBounds_toArray, List.set_cons_zero, List.set_cons_succ, i64_w, i32_w]
            rfl
          refine pure_ (i := 4) (N := some 41) (v := ?_) (a' := ?_) #[true, true, true, true, true, false, true, false, false] rfl rfl (any_of HT_.out (by kernel_rfl)) (fun _ _ _ h => h) (Or.inl ⟨by rfl, ?_⟩) ?_ ?_
          rotate_left
          · intro w'
            go_simp
            try with_reducible rfl
          rotate_left
          · simp only [Act.put, List.setIfInBounds_toArray, List.set_cons_zero, List.set_cons_succ, i64_w, i32_w]
            rfl
          refine pure_ (i := 5) (N := some 42) (v := ?_) (a' := ?_) #[true, true, true, true, true, true, true, false, false] rfl rfl (any_of HT_.out (by kernel_rfl)) (fun _ _ _ h => h) (Or.inl ⟨by rfl, ?_⟩) ?_ ?_
          rotate_left
          · intro w'
            go_simp
            try with_reducible rfl
          rotate_left
          · simp only [Act.put, List.setIfInBounds_toArray, List.set_cons_zero, List.set_cons_succ, i64_w, i32_w]
            rfl
          refine one_ (i := 7) (N := none) #[true, true, true, true, true, true, true, true, false] rfl rfl (one_of HT_.out (by kernel_rfl)) (by decide) (fun K hK => ?_)
          refine dr_put2 S (by rfl) rfl 0 rfl 0 (.slice B109 t109.length C109) (.slice B110 t110.length C110) rfl rfl rfl rfl ?_ ?_
          · have z0 := S.cell 0 rfl 0 rfl; have y0 := S.frozen 0 rfl 0; have z1 := S.cell 0 rfl 1 rfl; have y1 := S.frozen 0 rfl 1; first | (go_simp; done) | (go_simp; rfl)
          clear S
          intro w1_ S
          clear hHeld
          refine hK.out _ _ ⟨S.cell 1 rfl 0 rfl, S.cell 1 rfl 1 rfl⟩ (fun hHeld => ?_)
          clear hK K
          refine pure_ (i := 8) (N := some 10) (v := ?_) (a' := ?_) #[true, true, true, true, true, true, true, true, true] rfl rfl (any_of HT_.out (by kernel_rfl)) (fun _ _ _ h => h) (Or.inl ⟨by rfl, ?_⟩) ?_ ?_
          rotate_left
          · intro w'
            go_simp
            try with_reducible rfl
          rotate_left
          · simp only [Act.put, List.setIfInBounds_toArray, List.set_cons_zero, List.set_cons_succ, i64_w, i32_w]
            rfl
          refine done_ (done_of HT_.out (by kernel_rfl)) ?_
          exact ⟨t106, t107, B106, C106, B107, C107, t109, t110, t111, B109, C109, B110, C110, g113, rfl, S, H⟩
      case' cutB13 =>
        clear S H
        rintro _ w1_ ⟨t106, t107, B106, C106, B107, C107, t109, t110, t111, B109, C109, B110, C110, g113, rfl, S, H⟩
        have q0 := S.cell 0 rfl 0 rfl
        have q1 := S.cell 0 rfl 1 rfl
        have q2 := S.cell 6 rfl 0 rfl
        have q3 := S.cell 6 rfl 1 rfl)
    | ((with_reducible refine gate_s (t := 27) (q := 7) d33f rfl ?_); (try clear q0); (try clear q1); (try clear q2); (try clear q3); refine ev_put2 rfl S rfl rfl 0 rfl 0 (.slice B101 t101.length C101) (.slice B102 t102.length C102) rfl rfl rfl rfl ?hr ?_; (case hr => have z0 := S.cell 0 rfl 0 rfl; have y0 := S.frozen 0 rfl 0; have z1 := S.cell 0 rfl 1 rfl; have y1 := S.frozen 0 rfl 1; first | (go_simp; done) | (go_simp; rfl)); clear S; intro w1_ S)
    | ((with_reducible refine gate_d (N := 7) d33f rfl ?_); (try clear q0); (try clear q1); (try clear q2); (try clear q3); refine ev_box 7 rfl S rfl #[.slice none 0 0, .slice none 0 0] 27 ?hr rfl ?_; (case hr => first | (go_simp; done) | (go_simp; rfl)); clear S; intro g105 w1_ S)
    | ((with_reducible refine gate_d (N := 34) d33f rfl ?_); refine goesL_ (some 34) rfl rfl Tryd.func23 (by kernel_rfl) rfl #[.agg #[.slice A0_0 l0_0.length c0_0, .slice A0_1 l0_1.length c0_1], .agg #[.slice A1_0 l1_0.length c1_0, .slice A1_1 l1_1.length c1_1]] rfl EQ ?_; (try clear q0); (try clear q1); (try clear q2); (try clear q3); replace H := bind_p H; obtain ⟨⟨t101, t102, t103⟩, H104, H⟩ := H; dsimp only at H; refine (rat_Add.sc k _ _ l0_0 _ _ l0_1 _ _ l1_0 _ _ l1_1 t101 t102 t103 _ (S.at 0 rfl) (S.at 1 rfl) (S.at 2 rfl) (S.at 3 rfl) H104).mono ?_; rintro _ w1_ ⟨B101, C101, B102, C102, rfl, ut101, ut102, hb⟩; refine ⟨_, rfl, ?_⟩; replace S := ((S.step hb).add ut101).add ut102; clear ut101 ut102 hb H104)
    | ((with_reducible refine gate_d (N := 71) d62t rfl ?_); (try (refine gate_guard (by rfl) ?_; dsimp only)); refine goesL_ (some 71) rfl rfl Tryd.func10 (by kernel_rfl) rfl #[] rfl EQ ?_; (try clear q0); (try clear q1); (try clear q2); (try clear q3); replace H := bind_p H; obtain ⟨t63, H64, H⟩ := H; refine (samphirelaw03_awake.sc k t63 _ H64).mono ?_; rintro _ w1_ ⟨rfl, hb⟩; refine ⟨_, rfl, ?_⟩; replace S := S.step hb; clear  hb H64)
    | ((with_reducible refine gate_d (N := 68) d59t rfl ?_); (try (refine gate_guard (by rfl) ?_; dsimp only)); refine goesL_ (some 68) rfl rfl Tryd.func22 (by kernel_rfl) rfl #[.agg #[.slice B47 t47.length C47, .slice B48 t48.length C48], .agg #[.slice B52 t52.length C52, .slice B53 t53.length C53]] rfl EQ ?_; (try clear q0); (try clear q1); (try clear q2); (try clear q3); replace H := bind_p H; obtain ⟨t60, H61, H⟩ := H; refine (samphireref03_Same.sc k _ _ t47 _ _ t48 _ _ t52 _ _ t53 t60 _ (S.at 3 rfl) (S.at 2 rfl) (S.at 1 rfl) (S.at 0 rfl) H61).mono ?_; rintro _ w1_ ⟨rfl, hb⟩; refine ⟨_, rfl, ?_⟩; replace S := S.step hb; clear  hb H61; revert H; refine w_b (fun d62t d62t' => fun H => ?_) (fun d62f d62f' => fun H => ?_))
    | ((with_reducible refine gate_s (t := 27) (q := 13) d33t rfl ?_); (try clear q0); (try clear q1); (try clear q2); (try clear q3); refine ev_put2 rfl S rfl rfl 0 rfl 0 (.slice B52 t52.length C52) (.slice B53 t53.length C53) rfl rfl rfl rfl ?hr ?_; (case hr => have z0 := S.cell 0 rfl 0 rfl; have y0 := S.frozen 0 rfl 0; have z1 := S.cell 0 rfl 1 rfl; have y1 := S.frozen 0 rfl 1; first | (go_simp; done) | (go_simp; rfl)); clear S; intro w1_ S; have q0 := S.cell 1 rfl 0 rfl; have q1 := S.cell 1 rfl 1 rfl; have q2 := S.cell 0 rfl 0 rfl; have q3 := S.cell 0 rfl 1 rfl; revert H; refine w_eq (fun d57t d57t' => w_eq (fun d58t d58t' => w_eq (fun d59t d59t' => fun H => ?_) (fun d59f d59f' => fun H => ?_)) (fun d58f d58f' => fun H => ?_)) (fun d57f d57f' => fun H => ?_))
    | ((with_reducible refine gate_d (N := 13) d33t rfl ?_); (try clear q0); (try clear q1); (try clear q2); (try clear q3); refine ev_box 13 rfl S rfl #[.slice none 0 0, .slice none 0 0] 27 ?hr rfl ?_; (case hr => first | (go_simp; done) | (go_simp; rfl)); clear S; intro g56 w1_ S)
    | ((with_reducible refine gate_d (N := 52) d33t rfl ?_); refine goesL_ (some 52) rfl rfl Tryd.func21 (by kernel_rfl) rfl #[.agg #[.slice A0_0 l0_0.length c0_0, .slice A0_1 l0_1.length c0_1], .agg #[.slice B42 t42.length C42, .slice B43 t43.length C43]] rfl EQ ?_; (try clear q0); (try clear q1); (try clear q2); (try clear q3); replace H := bind_p H; obtain ⟨⟨t52, t53, t54⟩, H55, H⟩ := H; dsimp only at H; refine (rat_Sub.sc k _ _ l0_0 _ _ l0_1 _ _ t42 _ _ t43 t52 t53 t54 _ (S.at 8 rfl) (S.at 9 rfl) (S.at 3 rfl) (S.at 2 rfl) H55).mono ?_; rintro _ w1_ ⟨B52, C52, B53, C53, rfl, ut52, ut53, hb⟩; refine ⟨_, rfl, ?_⟩; replace S := ((S.step hb).add ut52).add ut53; clear ut52 ut53 hb H55)
    | ((with_reducible refine gate_s (t := 27) (q := 11) d33t rfl ?_); (try clear q0); (try clear q1); (try clear q2); (try clear q3); refine ev_put2 rfl S rfl rfl 0 rfl 0 (.slice B47 t47.length C47) (.slice B48 t48.length C48) rfl rfl rfl rfl ?hr ?_; (case hr => have z0 := S.cell 0 rfl 0 rfl; have y0 := S.frozen 0 rfl 0; have z1 := S.cell 0 rfl 1 rfl; have y1 := S.frozen 0 rfl 1; first | (go_simp; done) | (go_simp; rfl)); clear S; intro w1_ S; have q0 := S.cell 6 rfl 0 rfl; have q1 := S.cell 6 rfl 1 rfl; have q2 := S.cell 1 rfl 0 rfl; have q3 := S.cell 1 rfl 1 rfl)
    | ((with_reducible refine gate_d (N := 11) d33t rfl ?_); (try clear q0); (try clear q1); (try clear q2); (try clear q3); refine ev_box 11 rfl S rfl #[.slice none 0 0, .slice none 0 0] 27 ?hr rfl ?_; (case hr => first | (go_simp; done) | (go_simp; rfl)); clear S; intro g51 w1_ S)
    | ((with_reducible refine gate_d (N := 46) d33t rfl ?_); refine goesL_ (some 46) rfl rfl Tryd.func21 (by kernel_rfl) rfl #[.agg #[.slice B42 t42.length C42, .slice B43 t43.length C43], .agg #[.slice A1_0 l1_0.length c1_0, .slice A1_1 l1_1.length c1_1]] rfl EQ ?_; (try clear q0); (try clear q1); (try clear q2); (try clear q3); replace H := bind_p H; obtain ⟨⟨t47, t48, t49⟩, H50, H⟩ := H; dsimp only at H; refine (rat_Sub.sc k _ _ t42 _ _ t43 _ _ l1_0 _ _ l1_1 t47 t48 t49 _ (S.at 1 rfl) (S.at 0 rfl) (S.at 8 rfl) (S.at 9 rfl) H50).mono ?_; rintro _ w1_ ⟨B47, C47, B48, C48, rfl, ut47, ut48, hb⟩; refine ⟨_, rfl, ?_⟩; replace S := ((S.step hb).add ut47).add ut48; clear ut47 ut48 hb H50)
    | (
      refine gate_w d33t ?_
      (try clear q0); (try clear q1); (try clear q2); (try clear q3)
      refine draw_cut (M := fun a w_ => ∃ (t39 : List Int) (t40 : List Int) (B39 : Option Addr) (C39 : Nat) (B40 : Option Addr) (C40 : Nat) (t42 : List Int) (t43 : List Int) (t44 : Int) (B42 : Option Addr) (C42 : Nat) (B43 : Option Addr) (C43 : Nat) (g46 : Nat), a = { tmps := #[.agg #[.slice A0_0 l0_0.length c0_0, .slice A0_1 l0_1.length c0_1], .agg #[.slice A1_0 l1_0.length c1_0, .slice A1_1 l1_1.length c1_1], .pointer (some ⟨g1, 0, none⟩), .pointer (some ⟨g2, 0, none⟩), .bool false, .int .i64 t30, .int .i64 t31, .pointer (some ⟨g38, 0, none⟩), .int .i64 t36, .pointer (some ⟨g46, 0, none⟩), .int .i64 t44, undef, undef, undef, undef, .agg #[.slice A0_0 l0_0.length c0_0, .slice A0_1 l0_1.length c0_1], .agg #[.slice A1_0 l1_0.length c1_0, .slice A1_1 l1_1.length c1_1], .slice (some ⟨g3, 0, none⟩) 2 2, .bool true, .bool false, undef, .tuple #[.int .i64 t30, .int .i64 t31], .agg #[.slice A0_0 l0_0.length c0_0, .slice A0_1 l0_1.length c0_1], .agg #[.slice A1_0 l1_0.length c1_0, .slice A1_1 l1_1.length c1_1], .tuple #[.int .i64 t30, .int .i64 t31], .int .i64 t30, .int .i64 t31, .int .i64 t30, .bool true, .agg #[.slice A1_0 l1_0.length c1_0, .slice A1_1 l1_1.length c1_1], .agg #[.slice A0_0 l0_0.length c0_0, .slice A0_1 l0_1.length c0_1], .tuple #[.agg #[.slice B34 t34.length C34, .slice B35 t35.length C35], .int .i64 t36], .agg #[.slice A1_0 l1_0.length c1_0, .slice A1_1 l1_1.length c1_1], .agg #[.slice A0_0 l0_0.length c0_0, .slice A0_1 l0_1.length c0_1], .tuple #[.agg #[.slice B34 t34.length C34, .slice B35 t35.length C35], .int .i64 t36], .agg #[.slice B34 t34.length C34, .slice B35 t35.length C35], .int .i64 t36, .tuple #[.agg #[.slice B42 t42.length C42, .slice B43 t43.length C43], .int .i64 t44], .agg #[.slice B34 t34.length C34, .slice B35 t35.length C35], .agg #[.slice B39 t39.length C39, .slice B40 t40.length C40], .tuple #[.agg #[.slice B42 t42.length C42, .slice B43 t43.length C43], .int .i64 t44], .agg #[.slice B42 t42.length C42, .slice B43 t43.length C43], .int .i64 t44, undef, undef, undef, undef, undef, undef, undef, undef, undef, undef, undef, undef, undef, undef, undef, undef, undef, undef, undef, undef, undef, undef, undef, undef, undef, undef, undef, undef, undef, undef], defers := [] } ∧ St w w_ [(B43, C43, t43), (B42, C42, t42), (B40, C40, t40), (B39, C39, t39), (B35, C35, t35), (B34, C34, t34), (A0_0, c0_0, l0_0), (A0_1, c0_1, l0_1), (A1_0, c1_0, l1_0), (A1_1, c1_1, l1_1)] [(g46, #[.slice B42 t42.length C42, .slice B43 t43.length C43], 27), (g38, #[.slice B34 t34.length C34, .slice B35 t35.length C35], 27), (g17, #[.slice A1_0 l1_0.length c1_0, .slice A1_1 l1_1.length c1_1], 27), (g5, #[.slice A0_0 l0_0.length c0_0, .slice A0_1 l0_1.length c0_1], 27), (g3, #[.slice A0_0 l0_0.length c0_0, .slice A0_1 l0_1.length c0_1, .slice A1_0 l1_0.length c1_0, .slice A1_1 l1_1.length c1_1], 27), (g2, #[.slice A0_0 l0_0.length c0_0, .slice A0_1 l0_1.length c0_1], 27), (g1, #[.slice A1_0 l1_0.length c1_0, .slice A1_1 l1_1.length c1_1], 27)] ∧ ((rat_Sub.f k t42 t43 l1_0 l1_1).bind fun b47 => ((rat_Sub.f k l0_0 l0_1 t42 t43).bind fun b52 => (if t44 = 0 then (if b47.2.2 = 0 then (if b52.2.2 = 0 then ((samphireref03_Same.f k b47.1 b47.2.1 b52.1 b52.2.1).bind fun t60 => (if t60 = true then ((samphirelaw03_awake.f k).bind fun t63 => (some (t63))) else (some (false)))) else (some (false))) else (some (false))) else (some (false))))) = some r0) ?cutA12 ?cutB12
      case' cutA12 =>
        replace S := S.drew
        refine start_ (n := 9) (S := fun w' => w'.cell? ⟨g38, 0, none⟩ = some (.slice B34 t34.length C34) ∧ w'.cell? ⟨g38, 1, none⟩ = some (.slice B35 t35.length C35)) (ds := []) #[false, false, false, false, false, false, false, false, false] (by kernel_rfl) rfl rfl ⟨S.cell 0 rfl 0 rfl, S.cell 0 rfl 1 rfl⟩ (fun hHeld => ?_)
        refine with_tabW samphirelaw03_RatMiddle.tab7 samphirelaw03_RatMiddle.bits7 (fun HT_ HW_ => ?_)
        generalize World.drew _ = w1_ at S hHeld ⊢
        refine take_ (i := 0) (N := some 38) (v := ?_) (a' := ?_) #[true, false, false, false, false, false, false, false, false] rfl rfl (take_ofW HT_.out HW_.out (by kernel_rfl)) (fun _ _ _ h => h) (Or.inl ⟨by rfl, ?_⟩) hHeld ?_ ?_
        rotate_left
        · rintro w' ⟨s0, s1⟩
          go_simp
          try with_reducible rfl
        rotate_left
        · simp only [Act.put, List.setIfInBounds_toArray, List.set_cons_zero, List.set_cons_succ, i64_w, i32_w]
          rfl
        refine two_ (i := 1) (j := 6) (Ni := some 39) (Nj := some 9) #[true, true, false, false, false, false, false, false, false] #[true, false, false, false, false, false, true, false, false] rfl rfl rfl rfl (two_of HT_.out (by kernel_rfl)) (by decide) (by decide) (fun K hK => ?o8_1a) (fun K hK => ?o8_1b)
        case' o8_1a =>
          refine goes_ Tryd.func12 (by kernel_rfl) rfl #[.int .u64 2] (by rfl) rfl rfl EQ ?_
          replace H := bind_p H
          obtain ⟨⟨t39, t40⟩, H41, H⟩ := H
          dsimp only at H
          refine (rat_Whole.sc k 2 t39 t40 _ H41).mono ?_
          rintro _ w1_ ⟨B39, C39, B40, C40, rfl, ut39, ut40, hb⟩
          refine ⟨_, rfl, ?_⟩
          replace S := ((S.step hb).add ut39).add ut40
          clear ut39 ut40 hb H41
          clear hHeld
          refine hK.out _ _ ⟨S.cell 0 rfl 0 rfl, S.cell 0 rfl 1 rfl⟩ (fun hHeld => ?_)
          clear hK K
          refine norm_ (a' := ?_) ?_ ?_
          rotate_left
          · show Act.put _ (some 39) _ = _
            simp only [Act.put, List.setIfInBounds_toArray, List.set_cons_zero, List.set_cons_succ, i64_w, i32_w]
            rfl
          refine two_ (i := 2) (j := 6) (Ni := some 40) (Nj := some 9) #[true, true, true, false, false, false, false, false, false] #[true, true, false, false, false, false, true, false, false] rfl rfl rfl rfl (two_of HT_.out (by kernel_rfl)) (by decide) (by decide) (fun K hK => ?o9_2a) (fun K hK => ?o9_2b)
          case' o9_2a =>
            refine goes_ Tryd.func24 (by kernel_rfl) rfl #[.agg #[.slice B34 t34.length C34, .slice B35 t35.length C35], .agg #[.slice B39 t39.length C39, .slice B40 t40.length C40]] (by rfl) rfl rfl EQ ?_
            replace H := bind_p H
            obtain ⟨⟨t42, t43, t44⟩, H45, H⟩ := H
            dsimp only at H
            refine (rat_Div.sc k _ _ t34 _ _ t35 _ _ t39 _ _ t40 t42 t43 t44 _ (S.at 3 rfl) (S.at 2 rfl) (S.at 1 rfl) (S.at 0 rfl) H45).mono ?_
            rintro _ w1_ ⟨B42, C42, B43, C43, rfl, ut42, ut43, hb⟩
            refine ⟨_, rfl, ?_⟩
            replace S := ((S.step hb).add ut42).add ut43
            clear ut42 ut43 hb H45
            clear hHeld
            refine hK.out _ _ ⟨S.cell 0 rfl 0 rfl, S.cell 0 rfl 1 rfl⟩ (fun hHeld => ?_)
            clear hK K
            refine norm_ (a' := ?_) ?_ ?_
            rotate_left
            · show Act.put _ (some 40) _ = _
              simp only [Act.put, List.setIfInBounds_toArray, List.set_cons_zero, List.set_cons_succ, i64_w, i32_w]
              rfl
            refine pure_ (i := 3) (N := some 37) (v := ?_) (a' := ?_) #[true, true, true, true, false, false, false, false, false] rfl rfl (any_of HT_.out (by kernel_rfl)) (fun _ _ _ h => h) (Or.inl ⟨by rfl, ?_⟩) ?_ ?_
            rotate_left
            · intro w'
              go_simp
              try with_reducible rfl
            rotate_left
            · simp only [Act.put, List.setIfInBounds_toArray, List.set_cons_zero, List.set_cons_succ, i64_w, i32_w]
              rfl
            refine pure_ (i := 4) (N := some 41) (v := ?_) (a' := ?_) #[true, true, true, true, true, false, false, false, false] rfl rfl (any_of HT_.out (by kernel_rfl)) (fun _ _ _ h => h) (Or.inl ⟨by rfl, ?_⟩) ?_ ?_
            rotate_left
            · intro w'
              go_simp
              try with_reducible rfl
            rotate_left
            · simp only [Act.put, List.setIfInBounds_toArray, List.set_cons_zero, List.set_cons_succ, i64_w, i32_w]
              rfl
            refine pure_ (i := 5) (N := some 42) (v := ?_) (a' := ?_) #[true, true, true, true, true, true, false, false, false] rfl rfl (any_of HT_.out (by kernel_rfl)) (fun _ _ _ h => h) (Or.inl ⟨by rfl, ?_⟩) ?_ ?_
            rotate_left
            · intro w'
              go_simp
              try with_reducible rfl
            rotate_left
            · simp only [Act.put, List.setIfInBounds_toArray, List.set_cons_zero, List.set_cons_succ, i64_w, i32_w]
              rfl
            refine one_ (i := 6) (N := some 9) #[true, true, true, true, true, true, true, false, false] rfl rfl (one_of HT_.out (by kernel_rfl)) (by decide) (fun K hK => ?_)
            refine dr_box (some 9) S (by rfl) rfl #[.slice none 0 0, .slice none 0 0] 27 ?_ rfl ?_
            · first | (go_simp; done) | (go_simp; rfl)
            clear S
            intro g46 w1_ S
            clear hHeld
            refine hK.out _ _ ⟨S.cell 1 rfl 0 rfl, S.cell 1 rfl 1 rfl⟩ (fun hHeld => ?_)
            clear hK K
            refine norm_ (a' := ?_) ?_ ?_
            rotate_left
            · show Act.put _ (some 9) _ = _
              simp only [Act.put, List.setIfInBounds_toArray, List.set_cons_zero, List.set_cons_succ, i64_w, i32_w]
              rfl
            refine one_ (i := 7) (N := none) #[true, true, true, true, true, true, true, true, false] rfl rfl (one_of HT_.out (by kernel_rfl)) (by decide) (fun K hK => ?_)
            refine dr_put2 S (by rfl) rfl 0 rfl 0 (.slice B42 t42.length C42) (.slice B43 t43.length C43) rfl rfl rfl rfl ?_ ?_
            · have z0 := S.cell 0 rfl 0 rfl; have y0 := S.frozen 0 rfl 0; have z1 := S.cell 0 rfl 1 rfl; have y1 := S.frozen 0 rfl 1; first | (go_simp; done) | (go_simp; rfl)
            clear S
            intro w1_ S
            clear hHeld
            refine hK.out _ _ ⟨S.cell 1 rfl 0 rfl, S.cell 1 rfl 1 rfl⟩ (fun hHeld => ?_)
            clear hK K
            refine pure_ (i := 8) (N := some 10) (v := ?_) (a' := ?_) #[true, true, true, true, true, true, true, true, true] rfl rfl (any_of HT_.out (by kernel_rfl)) (fun _ _ _ h => h) (Or.inl ⟨by rfl, ?_⟩) ?_ ?_
            rotate_left
            · intro w'
              go_simp
              try with_reducible rfl
            rotate_left
            · simp only [Act.put, List.setIfInBounds_toArray, List.set_cons_zero, List.set_cons_succ, i64_w, i32_w]
              rfl
            refine done_ (done_of HT_.out (by kernel_rfl)) ?_
            exact ⟨t39, t40, B39, C39, B40, C40, t42, t43, t44, B42, C42, B43, C43, g46, rfl, S, H⟩
          case' o9_2b =>
            refine dr_box (some 9) S (by rfl) rfl #[.slice none 0 0, .slice none 0 0] 27 ?_ rfl ?_
            · first | (go_simp; done) | (go_simp; rfl)
            clear S
            intro g46 w1_ S
            clear hHeld
            refine hK.out _ _ ⟨S.cell 1 rfl 0 rfl, S.cell 1 rfl 1 rfl⟩ (fun hHeld => ?_)
            clear hK K
            refine norm_ (a' := ?_) ?_ ?_
            rotate_left
            · show Act.put _ (some 9) _ = _
              simp only [Act.put, List.setIfInBounds_toArray, List.set_cons_zero, List.set_cons_succ, i64_w, i32_w]
              rfl
            refine one_ (i := 2) (N := some 40) #[true, true, true, false, false, false, true, false, false] rfl rfl (one_of HT_.out (by kernel_rfl)) (by decide) (fun K hK => ?_)
            refine goes_ Tryd.func24 (by kernel_rfl) rfl #[.agg #[.slice B34 t34.length C34, .slice B35 t35.length C35], .agg #[.slice B39 t39.length C39, .slice B40 t40.length C40]] (by rfl) rfl rfl EQ ?_
            replace H := bind_p H
            obtain ⟨⟨t42, t43, t44⟩, H45, H⟩ := H
            dsimp only at H
            refine (rat_Div.sc k _ _ t34 _ _ t35 _ _ t39 _ _ t40 t42 t43 t44 _ (S.at 3 rfl) (S.at 2 rfl) (S.at 1 rfl) (S.at 0 rfl) H45).mono ?_
            rintro _ w1_ ⟨B42, C42, B43, C43, rfl, ut42, ut43, hb⟩
            refine ⟨_, rfl, ?_⟩
            replace S := ((S.step hb).add ut42).add ut43
            clear ut42 ut43 hb H45
            clear hHeld
            refine hK.out _ _ ⟨S.cell 1 rfl 0 rfl, S.cell 1 rfl 1 rfl⟩ (fun hHeld => ?_)
            clear hK K
            refine norm_ (a' := ?_) ?_ ?_
            rotate_left
            · show Act.put _ (some 40) _ = _
              simp only [Act.put, List.setIfInBounds_toArray, List.set_cons_zero, List.set_cons_succ, i64_w, i32_w]
              rfl
            refine pure_ (i := 3) (N := some 37) (v := ?_) (a' := ?_) #[true, true, true, true, false, false, true, false, false] rfl rfl (any_of HT_.out (by kernel_rfl)) (fun _ _ _ h => h) (Or.inl ⟨by rfl, ?_⟩) ?_ ?_
            rotate_left
            · intro w'
              go_simp
              try with_reducible rfl
            rotate_left
            · simp only [Act.put, List.setIfInBounds_toArray, List.set_cons_zero, List.set_cons_succ, i64_w, i32_w]
              rfl
            refine pure_ (i := 4) (N := some 41) (v := ?_) (a' := ?_) #[true, true, true, true, true, false, true, false, false] rfl rfl (any_of HT_.out (by kernel_rfl)) (fun _ _ _ h => h) (Or.inl ⟨by rfl, ?_⟩) ?_ ?_
            rotate_left
            · intro w'
              go_simp
              try with_reducible rfl
            rotate_left
            · simp only [Act.put, List.setIfInBounds_toArray, List.set_cons_zero, List.set_cons_succ, i64_w, i32_w]
              rfl
            refine pure_ (i := 5) (N := some 42) (v := ?_) (a' := ?_) #[true, true, true, true, true, true, true, false, false] rfl rfl (any_of HT_.out (by kernel_rfl)) (fun _ _ _ h => h) (Or.inl ⟨by rfl, ?_⟩) ?_ ?_
            rotate_left
            · intro w'
              go_simp
              try with_reducible rfl
            rotate_left
            · simp only [Act.put, List.setIfInBounds_toArray, List.set_cons_zero, List.set_cons_succ, i64_w, i32_w]
              rfl
            refine one_ (i := 7) (N := none) #[true, true, true, true, true, true, true, true, false] rfl rfl (one_of HT_.out (by kernel_rfl)) (by decide) (fun K hK => ?_)
            refine dr_put2 S (by rfl) rfl 0 rfl 0 (.slice B42 t42.length C42) (.slice B43 t43.length C43) rfl rfl rfl rfl ?_ ?_
            · have z0 := S.cell 0 rfl 0 rfl; have y0 := S.frozen 0 rfl 0; have z1 := S.cell 0 rfl 1 rfl; have y1 := S.frozen 0 rfl 1; first | (go_simp; done) | (go_simp; rfl)
            clear S
            intro w1_ S
            clear hHeld
            refine hK.out _ _ ⟨S.cell 1 rfl 0 rfl, S.cell 1 rfl 1 rfl⟩ (fun hHeld => ?_)
            clear hK K
            refine pure_ (i := 8) (N := some 10) (v := ?_) (a' := ?_) #[true, true, true, true, true, true, true, true, true] rfl rfl (any_of HT_.out (by kernel_rfl)) (fun _ _ _ h => h) (Or.inl ⟨by rfl, ?_⟩) ?_ ?_
            rotate_left
            · intro w'
              go_simp
              try with_reducible rfl
            rotate_left
            · simp only [Act.put, List.setIfInBounds_toArray, List.set_cons_zero, List.set_cons_succ, i64_w, i32_w]
              rfl
            refine done_ (done_of HT_.out (by kernel_rfl)) ?_
            exact ⟨t39, t40, B39, C39, B40, C40, t42, t43, t44, B42, C42, B43, C43, g46, rfl, S, H⟩
        case' o8_1b =>
          refine dr_box (some 9) S (by rfl) rfl #[.slice none 0 0, .slice none 0 0] 27 ?_ rfl ?_
          · first | (go_simp; done) | (go_simp; rfl)
          clear S
          intro g46 w1_ S
          clear hHeld
          refine hK.out _ _ ⟨S.cell 1 rfl 0 rfl, S.cell 1 rfl 1 rfl⟩ (fun hHeld => ?_)
          clear hK K
          refine norm_ (a' := ?_) ?_ ?_
          rotate_left
          · show Act.put _ (some 9) _ = _
            simp only [Act.put, List.setIfInBounds_toArray, List.set_cons_zero, List.set_cons_succ, i64_w, i32_w]
            rfl
          refine one_ (i := 1) (N := some 39) #[true, true, false, false, false, false, true, false, false] rfl rfl (one_of HT_.out (by kernel_rfl)) (by decide) (fun K hK => ?_)
          refine goes_ Tryd.func12 (by kernel_rfl) rfl #[.int .u64 2] (by rfl) rfl rfl EQ ?_
          replace H := bind_p H
          obtain ⟨⟨t39, t40⟩, H41, H⟩ := H
          dsimp only at H
          refine (rat_Whole.sc k 2 t39 t40 _ H41).mono ?_
          rintro _ w1_ ⟨B39, C39, B40, C40, rfl, ut39, ut40, hb⟩
          refine ⟨_, rfl, ?_⟩
          replace S := ((S.step hb).add ut39).add ut40
          clear ut39 ut40 hb H41
          clear hHeld
          refine hK.out _ _ ⟨S.cell 1 rfl 0 rfl, S.cell 1 rfl 1 rfl⟩ (fun hHeld => ?_)
          clear hK K
          refine norm_ (a' := ?_) ?_ ?_
          rotate_left
          · show Act.put _ (some 39) _ = _
            simp only [Act.put, List.setIfInBounds_toArray, List.set_cons_zero, List.set_cons_succ, i64_w, i32_w]
            rfl
          refine one_ (i := 2) (N := some 40) #[true, true, true, false, false, false, true, false, false] rfl rfl (one_of HT_.out (by kernel_rfl)) (by decide) (fun K hK => ?_)
          refine goes_ Tryd.func24 (by kernel_rfl) rfl #[.agg #[.slice B34 t34.length C34, .slice B35 t35.length C35], .agg #[.slice B39 t39.length C39, .slice B40 t40.length C40]] (by rfl) rfl rfl EQ ?_
          replace H := bind_p H
          obtain ⟨⟨t42, t43, t44⟩, H45, H⟩ := H
          dsimp only at H
          refine (rat_Div.sc k _ _ t34 _ _ t35 _ _ t39 _ _ t40 t42 t43 t44 _ (S.at 3 rfl) (S.at 2 rfl) (S.at 1 rfl) (S.at 0 rfl) H45).mono ?_
          rintro _ w1_ ⟨B42, C42, B43, C43, rfl, ut42, ut43, hb⟩
          refine ⟨_, rfl, ?_⟩
          replace S := ((S.step hb).add ut42).add ut43
          clear ut42 ut43 hb H45
          clear hHeld
          refine hK.out _ _ ⟨S.cell 1 rfl 0 rfl, S.cell 1 rfl 1 rfl⟩ (fun hHeld => ?_)
          clear hK K
          refine norm_ (a' := ?_) ?_ ?_
          rotate_left
          · show Act.put _ (some 40) _ = _
            simp only [Act.put, List.setIfInBounds_toArray, List.set_cons_zero, List.set_cons_succ, i64_w, i32_w]
            rfl
          refine pure_ (i := 3) (N := some 37) (v := ?_) (a' := ?_) #[true, true, true, true, false, false, true, false, false] rfl rfl (any_of HT_.out (by kernel_rfl)) (fun _ _ _ h => h) (Or.inl ⟨by rfl, ?_⟩) ?_ ?_
          rotate_left
          · intro w'
            go_simp
            try with_reducible rfl
          rotate_left
          · simp only [Act.put, List.setIfInBounds_toArray, List.set_cons_zero, List.set_cons_succ, i64_w, i32_w]
            rfl
          refine pure_ (i := 4) (N := some 41) (v := ?_) (a' := ?_) #[true, true, true, true, true, false, true, false, false] rfl rfl (any_of HT_.out (by kernel_rfl)) (fun _ _ _ h => h) (Or.inl ⟨by rfl, ?_⟩) ?_ ?_
          rotate_left
          · intro w'
            go_simp
            try with_reducible rfl
          rotate_left
          · simp only [Act.put, List.setIfInBounds_toArray, List.set_cons_zero, List.set_cons_succ, i64_w, i32_w]
            rfl
          refine pure_ (i := 5) (N := some 42) (v := ?_) (a' := ?_) #[true, true, true, true, true, true, true, false, false] rfl rfl (any_of HT_.out (by kernel_rfl)) (fun _ _ _ h => h) (Or.inl ⟨by rfl, ?_⟩) ?_ ?_
          rotate_left
          · intro w'
            go_simp
            try with_reducible rfl
          rotate_left
          · simp only [Act.put, List.setIfInBounds_toArray, List.set_cons_zero, List.set_cons_succ, i64_w, i32_w]
            rfl
          refine one_ (i := 7) (N := none) #[true, true, true, true, true, true, true, true, false] rfl rfl (one_of HT_.out (by kernel_rfl)) (by decide) (fun K hK => ?_)
          refine dr_put2 S (by rfl) rfl 0 rfl 0 (.slice B42 t42.length C42) (.slice B43 t43.length C43) rfl rfl rfl rfl ?_ ?_
          · have z0 := S.cell 0 rfl 0 rfl; have y0 := S.frozen 0 rfl 0; have z1 := S.cell 0 rfl 1 rfl; have y1 := S.frozen 0 rfl 1; first | (go_simp; done) | (go_simp; rfl)
          clear S
          intro w1_ S
          clear hHeld
          refine hK.out _ _ ⟨S.cell 1 rfl 0 rfl, S.cell 1 rfl 1 rfl⟩ (fun hHeld => ?_)
          clear hK K
          refine pure_ (i := 8) (N := some 10) (v := ?_) (a' := ?_) #[true, true, true, true, true, true, true, true, true] rfl rfl (any_of HT_.out (by kernel_rfl)) (fun _ _ _ h => h) (Or.inl ⟨by rfl, ?_⟩) ?_ ?_
          rotate_left
          · intro w'
            go_simp
            try with_reducible rfl
          rotate_left
          · simp only [Act.put, List.setIfInBounds_toArray, List.set_cons_zero, List.set_cons_succ, i64_w, i32_w]
            rfl
          refine done_ (done_of HT_.out (by kernel_rfl)) ?_
          exact ⟨t39, t40, B39, C39, B40, C40, t42, t43, t44, B42, C42, B43, C43, g46, rfl, S, H⟩
      case' cutB12 =>
        clear S H
        rintro _ w1_ ⟨t39, t40, B39, C39, B40, C40, t42, t43, t44, B42, C42, B43, C43, g46, rfl, S, H⟩
        have q0 := S.cell 0 rfl 0 rfl
        have q1 := S.cell 0 rfl 1 rfl
        have q2 := S.cell 6 rfl 0 rfl
        have q3 := S.cell 6 rfl 1 rfl)
    | ((with_reducible refine gate_s (t := 27) (q := 7) d33t rfl ?_); (try clear q0); (try clear q1); (try clear q2); (try clear q3); refine ev_put2 rfl S rfl rfl 0 rfl 0 (.slice B34 t34.length C34) (.slice B35 t35.length C35) rfl rfl rfl rfl ?hr ?_; (case hr => have z0 := S.cell 0 rfl 0 rfl; have y0 := S.frozen 0 rfl 0; have z1 := S.cell 0 rfl 1 rfl; have y1 := S.frozen 0 rfl 1; first | (go_simp; done) | (go_simp; rfl)); clear S; intro w1_ S)
    | ((with_reducible refine gate_d (N := 7) d33t rfl ?_); (try clear q0); (try clear q1); (try clear q2); (try clear q3); refine ev_box 7 rfl S rfl #[.slice none 0 0, .slice none 0 0] 27 ?hr rfl ?_; (case hr => first | (go_simp; done) | (go_simp; rfl)); clear S; intro g38 w1_ S)
    | ((with_reducible refine gate_d (N := 34) d33t rfl ?_); refine goesL_ (some 34) rfl rfl Tryd.func23 (by kernel_rfl) rfl #[.agg #[.slice A1_0 l1_0.length c1_0, .slice A1_1 l1_1.length c1_1], .agg #[.slice A0_0 l0_0.length c0_0, .slice A0_1 l0_1.length c0_1]] rfl EQ ?_; (try clear q0); (try clear q1); (try clear q2); (try clear q3); replace H := bind_p H; obtain ⟨⟨t34, t35, t36⟩, H37, H⟩ := H; dsimp only at H; refine (rat_Add.sc k _ _ l1_0 _ _ l1_1 _ _ l0_0 _ _ l0_1 t34 t35 t36 _ (S.at 2 rfl) (S.at 3 rfl) (S.at 0 rfl) (S.at 1 rfl) H37).mono ?_; rintro _ w1_ ⟨B34, C34, B35, C35, rfl, ut34, ut35, hb⟩; refine ⟨_, rfl, ?_⟩; replace S := ((S.step hb).add ut34).add ut35; clear ut34 ut35 hb H37)
    | ((with_reducible refine gate_s (t := 27) (q := 3) d33t rfl ?_); (try clear q0); (try clear q1); (try clear q2); (try clear q3); refine ev_put2 rfl S rfl rfl 3 rfl 0 (.slice A0_0 l0_0.length c0_0) (.slice A0_1 l0_1.length c0_1) rfl rfl rfl rfl ?hr ?_; (case hr => have z0 := S.cell 3 rfl 0 rfl; have y0 := S.frozen 3 rfl 0; have z1 := S.cell 3 rfl 1 rfl; have y1 := S.frozen 3 rfl 1; first | (go_simp; done) | (go_simp; rfl)); clear S; intro w1_ S; have q0 := S.cell 4 rfl 0 rfl; have q1 := S.cell 4 rfl 1 rfl; have q2 := S.cell 3 rfl 0 rfl; have q3 := S.cell 3 rfl 1 rfl)
    | ((with_reducible refine gate_s (t := 27) (q := 2) d33t rfl ?_); (try clear q0); (try clear q1); (try clear q2); (try clear q3); refine ev_put2 rfl S rfl rfl 4 rfl 0 (.slice A1_0 l1_0.length c1_0) (.slice A1_1 l1_1.length c1_1) rfl rfl rfl rfl ?hr ?_; (case hr => have z0 := S.cell 4 rfl 0 rfl; have y0 := S.frozen 4 rfl 0; have z1 := S.cell 4 rfl 1 rfl; have y1 := S.frozen 4 rfl 1; first | (go_simp; done) | (go_simp; rfl)); clear S; intro w1_ S)
    | ((with_reducible refine gate_d (N := 24) d29 rfl ?_); (try (refine gate_guard (by rfl) ?_; dsimp only)); refine goesL_ (some 24) rfl rfl Tryd.func20 (by kernel_rfl) rfl #[.agg #[.slice A0_0 l0_0.length c0_0, .slice A0_1 l0_1.length c0_1], .agg #[.slice A1_0 l1_0.length c1_0, .slice A1_1 l1_1.length c1_1]] rfl EQ ?_; (try clear q0); (try clear q1); (try clear q2); (try clear q3); replace H := bind_p H; obtain ⟨⟨t30, t31⟩, H32, H⟩ := H; dsimp only at H; refine (rat_Cmp.sc k _ _ l0_0 _ _ l0_1 _ _ l1_0 _ _ l1_1 t30 t31 _ (S.at 0 rfl) (S.at 1 rfl) (S.at 2 rfl) (S.at 3 rfl) H32).mono ?_; rintro _ w1_ ⟨rfl, hb⟩; refine ⟨_, rfl, ?_⟩; replace S := S.step hb; clear  hb H32; have q0 := S.cell 3 rfl 0 rfl; have q1 := S.cell 3 rfl 1 rfl; have q2 := S.cell 4 rfl 0 rfl; have q3 := S.cell 4 rfl 1 rfl; revert H; refine w_lt (fun d33t => fun H => ?_) (fun d33f => fun H => ?_))
    | ((with_reducible refine gate_b (fn := Tryd.f19) d28t ?_); go_ret; refine ⟨_, rfl, ?_⟩; (try clear q0); (try clear q1); (try clear q2); (try clear q3); have d29 := trivial; have q0 := S.cell 4 rfl 0 rfl; have q1 := S.cell 4 rfl 1 rfl; have q2 := S.cell 3 rfl 0 rfl; have q3 := S.cell 3 rfl 1 rfl)
    | ((with_reducible refine gate_d (N := 23) d22f rfl ?_); (try (refine gate_guard (by rfl) ?_; dsimp only)); refine goesL_ (some 23) rfl rfl Tryd.func18 (by kernel_rfl) rfl #[.agg #[.slice A1_0 l1_0.length c1_0, .slice A1_1 l1_1.length c1_1]] rfl EQ ?_; (try clear q0); (try clear q1); (try clear q2); (try clear q3); replace H := bind_p H; obtain ⟨t26, H27, H⟩ := H; refine (rat_Right.sc k _ _ l1_0 _ _ l1_1 t26 _ (S.at 2 rfl) (S.at 3 rfl) H27).mono ?_; rintro _ w1_ ⟨rfl, hb⟩; refine ⟨_, rfl, ?_⟩; replace S := S.step hb; clear  hb H27; revert H; refine w_b (fun d28t d28t' => fun H => ?_) (fun d28f d28f' => fun H => ?_))
    | ((with_reducible refine gate_d (N := 20) d23 rfl ?_); refine goesL_ (some 20) rfl rfl Tryd.func10 (by kernel_rfl) rfl #[] rfl EQ ?_; (try clear q0); (try clear q1); (try clear q2); (try clear q3); replace H := bind_p H; obtain ⟨t24, H25, H⟩ := H; refine (samphirelaw03_awake.sc k t24 _ H25).mono ?_; rintro _ w1_ ⟨rfl, hb⟩; refine ⟨_, rfl, ?_⟩; replace S := S.step hb; clear  hb H25)
    | ((with_reducible refine gate_b (fn := Tryd.f19) d22t ?_); go_ret; refine ⟨_, rfl, ?_⟩; (try clear q0); (try clear q1); (try clear q2); (try clear q3); have d23 := trivial)
    | ((with_reducible refine gate_d (N := 20) d19 rfl ?_); refine goesL_ (some 20) rfl rfl Tryd.func10 (by kernel_rfl) rfl #[] rfl EQ ?_; (try clear q0); (try clear q1); (try clear q2); (try clear q3); replace H := bind_p H; obtain ⟨t20, H21, H⟩ := H; refine (samphirelaw03_awake.sc k t20 _ H21).mono ?_; rintro _ w1_ ⟨rfl, hb⟩; refine ⟨_, rfl, ?_⟩; replace S := S.step hb; clear  hb H21)
    | ((with_reducible refine gate_b (fn := Tryd.f19) d18t ?_); go_ret; refine ⟨_, rfl, ?_⟩; (try clear q0); (try clear q1); (try clear q2); (try clear q3); have d19 := trivial)
    | ((with_reducible refine gate_s (t := 27) (q := 4) d16t rfl ?_); (try clear q0); (try clear q1); (try clear q2); (try clear q3); refine ev_put2 rfl S rfl rfl 0 rfl 0 (.slice A1_0 l1_0.length c1_0) (.slice A1_1 l1_1.length c1_1) rfl rfl rfl rfl ?hr ?_; (case hr => have z0 := S.cell 0 rfl 0 rfl; have y0 := S.frozen 0 rfl 0; have z1 := S.cell 0 rfl 1 rfl; have y1 := S.frozen 0 rfl 1; first | (go_simp; done) | (go_simp; rfl)); clear S; intro w1_ S; have q0 := S.cell 0 rfl 0 rfl; have q1 := S.cell 0 rfl 1 rfl; revert H; refine w_ltl 6 rfl (fun d18t d18t' => fun H => ?_) (fun d18f d18f' => w_ltl 6 rfl (fun d22t d22t' => fun H => ?_) (fun d22f d22f' => fun H => ?_)))
    | ((with_reducible refine gate_d (N := 4) d16t rfl ?_); (try clear q0); (try clear q1); (try clear q2); (try clear q3); refine ev_box 4 rfl S rfl #[.slice none 0 0, .slice none 0 0] 27 ?hr rfl ?_; (case hr => first | (go_simp; done) | (go_simp; rfl)); clear S; intro g17 w1_ S)
    | ((with_reducible refine gate_d (N := 23) d10f rfl ?_); (try (refine gate_guard (by rfl) ?_; dsimp only)); refine goesL_ (some 23) rfl rfl Tryd.func18 (by kernel_rfl) rfl #[.agg #[.slice A0_0 l0_0.length c0_0, .slice A0_1 l0_1.length c0_1]] rfl EQ ?_; (try clear q0); (try clear q1); (try clear q2); (try clear q3); replace H := bind_p H; obtain ⟨t14, H15, H⟩ := H; refine (rat_Right.sc k _ _ l0_0 _ _ l0_1 t14 _ (S.at 0 rfl) (S.at 1 rfl) H15).mono ?_; rintro _ w1_ ⟨rfl, hb⟩; refine ⟨_, rfl, ?_⟩; replace S := S.step hb; clear  hb H15; have q0 := S.cell 1 rfl 2 rfl; have q1 := S.cell 1 rfl 3 rfl; revert H; refine w_b (fun d16t d16t' => fun H => ?_) (fun d16f d16f' => fun H => ?_))
    | ((with_reducible refine gate_d (N := 20) d11 rfl ?_); refine goesL_ (some 20) rfl rfl Tryd.func10 (by kernel_rfl) rfl #[] rfl EQ ?_; (try clear q0); (try clear q1); (try clear q2); (try clear q3); replace H := bind_p H; obtain ⟨t12, H13, H⟩ := H; refine (samphirelaw03_awake.sc k t12 _ H13).mono ?_; rintro _ w1_ ⟨rfl, hb⟩; refine ⟨_, rfl, ?_⟩; replace S := S.step hb; clear  hb H13)
    | ((with_reducible refine gate_b (fn := Tryd.f19) d10t ?_); go_ret; refine ⟨_, rfl, ?_⟩; (try clear q0); (try clear q1); (try clear q2); (try clear q3); have d11 := trivial)
    | ((with_reducible refine gate_d (N := 20) d7 rfl ?_); refine goesL_ (some 20) rfl rfl Tryd.func10 (by kernel_rfl) rfl #[] rfl EQ ?_; (try clear q0); (try clear q1); (try clear q2); (try clear q3); replace H := bind_p H; obtain ⟨t8, H9, H⟩ := H; refine (samphirelaw03_awake.sc k t8 _ H9).mono ?_; rintro _ w1_ ⟨rfl, hb⟩; refine ⟨_, rfl, ?_⟩; replace S := S.step hb; clear  hb H9)
    | ((with_reducible refine gate_b (fn := Tryd.f19) d6t ?_); go_ret; refine ⟨_, rfl, ?_⟩; (try clear q0); (try clear q1); (try clear q2); (try clear q3); have d7 := trivial)
    | ((with_reducible refine gate_s (t := 27) (q := 4) d4 rfl ?_); (try clear q0); (try clear q1); (try clear q2); (try clear q3); refine ev_put2 rfl S rfl rfl 0 rfl 0 (.slice A0_0 l0_0.length c0_0) (.slice A0_1 l0_1.length c0_1) rfl rfl rfl rfl ?hr ?_; (case hr => have z0 := S.cell 0 rfl 0 rfl; have y0 := S.frozen 0 rfl 0; have z1 := S.cell 0 rfl 1 rfl; have y1 := S.frozen 0 rfl 1; first | (go_simp; done) | (go_simp; rfl)); clear S; intro w1_ S; have q0 := S.cell 0 rfl 0 rfl; have q1 := S.cell 0 rfl 1 rfl; revert H; refine w_ltl 6 rfl (fun d6t d6t' => fun H => ?_) (fun d6f d6f' => w_ltl 6 rfl (fun d10t d10t' => fun H => ?_) (fun d10f d10f' => fun H => ?_)))
    | ((with_reducible refine gate_d (N := 4) d4 rfl ?_); (try clear q0); (try clear q1); (try clear q2); (try clear q3); refine ev_box 4 rfl S rfl #[.slice none 0 0, .slice none 0 0] 27 ?hr rfl ?_; (case hr => first | (go_simp; done) | (go_simp; rfl)); clear S; intro g5 w1_ S)
    | ((with_reducible refine gate_d (N := 18) trivial rfl ?_); (try (refine gate_guard (by rfl) ?_; dsimp only)); refine goesL_ (some 18) rfl rfl Tryd.func19 (by kernel_rfl) rfl #[.slice (some ⟨g3, 0, none⟩) 2 2] rfl EQ ?_; go_enter Tryd.func19, Tryd.ntmps19; (try clear q0); (try clear q1); (try clear q2); (try clear q3); have d4 := trivial; have q0 := S.cell 0 rfl 0 rfl; have q1 := S.cell 0 rfl 1 rfl)
    | ((with_reducible refine gate_d (N := 17) trivial rfl ?_); (try (refine gate_guard (by rfl) ?_; dsimp only)); (try clear q0); (try clear q1); (try clear q2); (try clear q3); refine ev_boxs 17 rfl S rfl #[.slice A0_0 l0_0.length c0_0, .slice A0_1 l0_1.length c0_1, .slice A1_0 l1_0.length c1_0, .slice A1_1 l1_1.length c1_1] 27 2 ?hr rfl ?_; (case hr => first | (go_simp; done) | (go_simp; rfl)); clear S; intro g3 w1_ S)
    | ((with_reducible refine gate_d (N := 3) trivial rfl ?_); (try clear q0); (try clear q1); (try clear q2); (try clear q3); refine ev_box 3 rfl S rfl #[.slice A1_0 l1_0.length c1_0, .slice A1_1 l1_1.length c1_1] 27 ?hr rfl ?_; (case hr => first | (go_simp; done) | (go_simp; rfl)); clear S; intro g2 w1_ S; have q0 := S.cell 1 rfl 0 rfl; have q1 := S.cell 1 rfl 1 rfl; have q2 := S.cell 0 rfl 0 rfl; have q3 := S.cell 0 rfl 1 rfl)
    | ((with_reducible refine gate_d (N := 2) trivial rfl ?_); (try clear q0); (try clear q1); (try clear q2); (try clear q3); refine ev_box 2 rfl S rfl #[.slice A0_0 l0_0.length c0_0, .slice A0_1 l0_1.length c0_1] 27 ?hr rfl ?_; (case hr => first | (go_simp; done) | (go_simp; rfl)); clear S; intro g1 w1_ S)
    | (refine wp_loop_rounds 8 ?_)
    | (rw [rounds_succ]))
  all_goals first
    | (have _p := d7; obtain rfl := Option.some.inj H; go_ret; exact ⟨rfl, S.below⟩)
    | (have _p := d11; obtain rfl := Option.some.inj H; go_ret; exact ⟨rfl, S.below⟩)
    | (have _p := d19; obtain rfl := Option.some.inj H; go_ret; exact ⟨rfl, S.below⟩)
    | (have _p := d23; obtain rfl := Option.some.inj H; go_ret; exact ⟨rfl, S.below⟩)
    | (have _p := d62t; obtain rfl := Option.some.inj H; go_ret; exact ⟨rfl, S.below⟩)
    | (have _p := d62f; obtain rfl := Option.some.inj H; go_ret; exact ⟨rfl, S.below⟩)
    | (have _p := d59f; obtain rfl := Option.some.inj H; go_ret; exact ⟨rfl, S.below⟩)
    | (have _p := d58f; obtain rfl := Option.some.inj H; go_ret; exact ⟨rfl, S.below⟩)
    | (have _p := d57f; obtain rfl := Option.some.inj H; go_ret; exact ⟨rfl, S.below⟩)
    | (have _p := d129t; obtain rfl := Option.some.inj H; go_ret; exact ⟨rfl, S.below⟩)
    | (have _p := d129f; obtain rfl := Option.some.inj H; go_ret; exact ⟨rfl, S.below⟩)
    | (have _p := d126f; obtain rfl := Option.some.inj H; go_ret; exact ⟨rfl, S.below⟩)
    | (have _p := d125f; obtain rfl := Option.some.inj H; go_ret; exact ⟨rfl, S.below⟩)
    | (have _p := d124f; obtain rfl := Option.some.inj H; go_ret; exact ⟨rfl, S.below⟩)
    | (have _p := d168; obtain rfl := Option.some.inj H; go_ret; exact ⟨rfl, S.below⟩)
    | (have _p := d171; obtain rfl := Option.some.inj H; go_ret; exact ⟨rfl, S.below⟩)
end Go.Proofs.YtecbbenfcepohaaDoor.V
