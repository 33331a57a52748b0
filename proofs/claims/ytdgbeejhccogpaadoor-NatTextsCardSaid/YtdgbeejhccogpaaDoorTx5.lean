-- Printed by this session's own program out of the translation.
import Derived.Test.YtdgbeejhccogpaaDoorTx0
import Derived.Test.YtdgbeejhccogpaaDoorTx1
import Derived.Test.YtdgbeejhccogpaaDoorTx2
import Derived.Test.YtdgbeejhccogpaaDoorTx3
import Derived.Test.YtdgbeejhccogpaaDoorTx4
namespace Go.Proofs.YtdgbeejhccogpaaDoor.T
open Go.RowKit Go.Proofs.YtdgbeejhccogpaaDoorW.PrintWords Go.Proofs.YtdgbeejhccogpaaDoorW.PrintLast Go.Proofs.YtdgbeejhccogpaaDoorW.PrintMore
attribute [local go_sem] max2_int min2_int max_two min_two max_three min_three max_four min_four   -- for this text's walks alone
set_option linter.unusedVariables false
set_option linter.unusedSimpArgs false

/-! ### samphirelaw02_NatTexts: function 5 -/
def samphirelaw02_NatTexts.T8 : Bool × List (List Nat × List Nat) := (true, [([], []), ([0], [0]), ([1], [1]), ([], []), ([3], [3]), ([4, 2], [4]), ([], []), ([5, 6, 5], [5, 6]), ([2, 7, 7], [2, 7]), ([8, 8, 0, 1, 2, 3, 4, 5, 6, 7, 8], [8])])
def samphirelaw02_NatTexts.B8 : List Nat := [0, 1, 3, 0, 8, 31, 0, 127, 255, 511]
theorem samphirelaw02_NatTexts.tab8 : rtab .any (opsOf Tryd.f5 8) = samphirelaw02_NatTexts.T8 := by kernel_rfl
theorem samphirelaw02_NatTexts.bits8 : waitsOk samphirelaw02_NatTexts.T8.2 samphirelaw02_NatTexts.B8 = true := by kernel_rfl
def samphirelaw02_NatTexts.T9 : Bool × List (List Nat × List Nat) := (true, [([], []), ([0], [0]), ([], []), ([1, 2], [1, 2]), ([3, 1], [3]), ([4], [4]), ([4], [4]), ([5, 6, 4, 4], [4, 5, 6]), ([4, 7], [4, 7]), ([8, 7], [8]), ([9], [9]), ([9], [9]), ([10, 11, 9], [9, 10, 11]), ([9, 12], [9, 12]), ([13, 9], [13]), ([14], [14]), ([15, 14], [14, 15]), ([16, 14, 14], [14, 16]), ([14], [14]), ([18, 14], [14, 18]), ([19, 17, 14], [14, 19]), ([17, 20, 20, 14], [14, 17, 20]), ([14, 21], [14, 21]), ([22, 21], [22]), ([23], [23]), ([24, 23, 23], [23, 24]), ([23], [23]), ([25, 26, 25, 23], [23, 25, 26]), ([23, 27], [23, 27]), ([28, 27], [28]), ([29, 29], [29]), ([29, 30], [29, 30]), ([31, 30, 0, 1, 2, 3, 4, 5, 6, 7, 8, 9, 10, 11, 12, 13, 14, 15, 16, 17, 18, 19, 20, 21, 22, 23, 24, 25, 26, 27, 28, 29, 30, 31], [31])])
def samphirelaw02_NatTexts.B9 : List Nat := [0, 1, 0, 7, 15, 31, 31, 127, 255, 511, 1023, 1023, 4095, 8191, 16383, 32767, 65535, 131071, 32767, 294911, 1048575, 2097151, 4194303, 8388607, 16777215, 33554431, 16777215, 134217727, 268435455, 536870911, 1073741823, 2147483647, 4294967295]
theorem samphirelaw02_NatTexts.tab9 : rtab .any (opsOf Tryd.f5 9) = samphirelaw02_NatTexts.T9 := by kernel_rfl
theorem samphirelaw02_NatTexts.bits9 : waitsOk samphirelaw02_NatTexts.T9.2 samphirelaw02_NatTexts.B9 = true := by kernel_rfl
set_option maxHeartbeats 8000000 in
set_option maxRecDepth 100000 in
theorem samphirelaw02_NatTexts.calls (k : Nat) (A0 : Option Addr) (c0 : Nat) (l0 : List Int) (a1 : ByteArray) (a2_0 : Int) (a2_1 : Int) (r : Bool) (w : World) (hr0 : Kd.C (Kd.int .u32) w A0 l0.length l0) (hc0 : l0.length ≤ c0) (h : samphirelaw02_NatTexts.f k l0 a1 a2_0 a2_1 = some r) :
    Calls Tryd.prog 5 #[.slice A0 l0.length c0, .string a1, .agg #[.int .u64 a2_0, .int .u64 a2_1]] w fun e w' => e = .returned (.bool r) ∧ Below w.heap.size w w' := by
  have hu39 := Tryd.underlying39
  have HR0 := Aside0.mk hr0
  have HC0 := Aside0.mk hc0
  clear hr0 hc0
  have HB := Aside0.mk (Below.refl w.heap.size w)
  have H : ((samphireref02_Small.f l0).bind fun t447 => (if t447 = true then (samphirelaw02_NatTexts.j0 k l0 a1 (decide ((a1.size : Int) > 800)) a2_0 a2_1) else (samphirelaw02_NatTexts.j0 k l0 a1 true a2_0 a2_1))) = some r := h
  clear h
  have HC4 := Aside0.mk H
  clear H
  go_enter Tryd.func5, Tryd.ntmps5
  go_upto_region 1 with (first | ((with_reducible refine gate_dst (N := 5) rfl ?_); (try (refine gate_guard (by rfl) ?_; dsimp only)); refine box_event ?hg (N := 5) ?hd (cs := #[.int .u64 a2_0, .int .u64 a2_1]) (t := 39) ?hr ?_; (case hd => rfl); (case hg => rfl); (case hr => first | (go_simp; done) | (go_simp; rfl)); intro gb446 hg w5 hbox hb; have n0_ := Aside0.mk (below_step BL hb); have n1_ := Aside0.mk (hbox); have n2_ := Aside0.mk ((by rw [hg]; exact (below_size BL) : w.heap.size ≤ gb446)); have n3_ := Aside0.mk ((by rw [hg]; exact (below_size BL) : w.heap.size ≤ gb446)); clear HB; have HB := n0_; have BK446 := n1_; have GW446 := n2_; have GE446 := n3_; clear n0_ n1_ n2_ n3_; clear hb hbox hg))
  (try simp only [Act.put, List.setIfInBounds_toArray, List.set_cons_zero, List.set_cons_succ])
  go_cut [20] (fun v20 wc => ∃ (kq : Nat) (x20_3 : Bool), v20 = .bool x20_3 ∧ Aside0 (samphirelaw02_NatTexts.j0 kq l0 a1 x20_3 a2_0 a2_1 = some r) ∧ Aside0 (kq ≤ k) ∧ Aside0 (wc.heap[gb446]? = some (.cells #[.int .u64 a2_0, .int .u64 a2_1] 39 (0, 0))) ∧ Aside0 (Below w.heap.size w wc))
  case first =>
    have H := HC4.out
    clear HC4
    obtain ⟨t447, A6, H⟩ := bind_p H
    by_cases c7 : t447 = true
    · subst c7
      have H1 : (samphirelaw02_NatTexts.j0 k l0 a1 (decide ((a1.size : Int) > 800)) a2_0 a2_1) = some r := by rw [if_pos rfl] at H; exact H
      clear H
      have H := H1
      clear H1
      have H' := Aside0.mk H
      clear H
      go_wp2_with (first | ((with_reducible refine gate_callee (f := 11) rfl ?_); refine goesL_ (some 14) rfl rfl Tryd.func11 (by kernel_rfl) rfl #[.slice A0 l0.length c0] rfl EQ ?_; (with_reducible refine (samphireref02_Small.calls _ _ l0 true _ ?side1 ?side2 A6.out).mono ?_); (case side1 => exact CB HR0); (case side2 => exact HC0.out); rintro e w' ⟨rfl, ⟨nd, rfl⟩⟩; refine ⟨_, rfl, ?_⟩))
      go_meet
      case rel => exact ⟨_, (decide ((a1.size : Int) > 800)), (by first | rfl | (simp; done) | (simp [*]; done) | (simp; exact isEmpty_bne _)), H', ⟨by first | omega | exact Nat.le_refl _⟩, ⟨by (with_reducible repeat (first | refine blk_drewN ?_ _ | refine blk_drew ?_ | refine blk_alloc ?_ _)); exact BK446.out⟩, ⟨by repeat (first | (with_reducible first | exact HB.out | apply below_alloc | apply pw_below_drewN | apply below_drew1 | refine below_set ?_ GE446.out) | exact HB.out)⟩⟩
    · replace c7 := Bool.eq_false_iff.mpr c7
      subst c7
      have H1 : (samphirelaw02_NatTexts.j0 k l0 a1 true a2_0 a2_1) = some r := by rw [if_neg (show ¬ (false = true) by decide)] at H; exact H
      clear H
      have H := H1
      clear H1
      have H' := Aside0.mk H
      clear H
      go_wp2_with (first | ((with_reducible refine gate_callee (f := 11) rfl ?_); refine goesL_ (some 14) rfl rfl Tryd.func11 (by kernel_rfl) rfl #[.slice A0 l0.length c0] rfl EQ ?_; (with_reducible refine (samphireref02_Small.calls _ _ l0 false _ ?side1 ?side2 A6.out).mono ?_); (case side1 => exact CB HR0); (case side2 => exact HC0.out); rintro e w' ⟨rfl, ⟨nd, rfl⟩⟩; refine ⟨_, rfl, ?_⟩))
      go_meet
      case rel => exact ⟨_, (true), (by first | rfl | (simp; done) | (simp [*]; done) | (simp; exact isEmpty_bne _)), H', ⟨by first | omega | exact Nat.le_refl _⟩, ⟨by (with_reducible repeat (first | refine blk_drewN ?_ _ | refine blk_drew ?_ | refine blk_alloc ?_ _)); exact BK446.out⟩, ⟨by repeat (first | (with_reducible first | exact HB.out | apply below_alloc | apply pw_below_drewN | apply below_drew1 | refine below_set ?_ GE446.out) | exact HB.out)⟩⟩
  case rest =>
    clear HC4
    try clear c1
    try clear p2
    try clear c5
    try clear c7
    obtain ⟨kq, x20_3, rfl, HA, HJ3, BK446, HB⟩ := hcut
    cases kq with
    | zero => exact absurd HA.out (by simp [samphirelaw02_NatTexts.j0])
    | succ kj3 =>
      have H := HA.out
      clear HA
      simp only [samphirelaw02_NatTexts.j0] at H
      by_cases c8 : x20_3 = true
      · subst c8
        have H1 : ((samphirelaw02_awake.f kj3).bind fun t448 => (some t448)) = some r := by rw [if_pos rfl] at H; exact H
        clear H
        have H := H1
        clear H1
        obtain ⟨t448, A9, H⟩ := bind_p H
        obtain rfl := Option.some.inj H
        go_wp2_with (first | ((with_reducible refine gate_callee (f := 12) rfl ?_); refine goesL_ (some 21) rfl rfl Tryd.func12 (by kernel_rfl) rfl #[] rfl EQ ?_; (with_reducible refine (samphirelaw02_awake.calls kj3  t448 _ A9.out).mono ?_); rintro e w10 ⟨rfl, hb⟩; refine ⟨_, rfl, ?_⟩; have n0_ := Aside0.mk (blk_below (g := gb446) (o := .cells #[.int .u64 a2_0, .int .u64 a2_1] 39 (0, 0)) (by (with_reducible repeat (first | refine blk_drewN ?_ _ | refine blk_drew ?_ | refine blk_alloc ?_ _)); exact BK446.out) hb); have n1_ := Aside0.mk (below_step (by repeat (first | (with_reducible first | exact HB.out | apply below_alloc | apply pw_below_drewN | apply below_drew1 | refine below_set ?_ GE446.out) | exact HB.out)) hb); clear BK446; clear HB; have BK446 := n0_; have HB := n1_; clear n0_ n1_; (try clear hb); (try clear hb2); (try clear hk); (try clear hi)))
        go_ret
        exact ⟨by first | rfl | (simp [errW_none, errW_some] <;> rfl) | (simp [*, errW_none, errW_some] <;> rfl), by repeat (first | (with_reducible first | exact HB.out | apply below_alloc | apply pw_below_drewN | apply below_drew1 | refine below_set ?_ GE446.out) | exact HB.out)⟩
      · replace c8 := Bool.eq_false_iff.mpr c8
        subst c8
        have H1 : ((samphireref02_Right.f l0).bind fun t449 => (if t449 = true then ((samphireref02_Text.f kj3 l0).bind fun t450 => (samphirelaw02_NatTexts.j1 kj3 l0 a1 t450 a2_0 a2_1)) else (samphirelaw02_NatTexts.j1 kj3 l0 a1 (⟨#[]⟩ : ByteArray) a2_0 a2_1))) = some r := by rw [if_neg (show ¬ (false = true) by decide)] at H; exact H
        clear H
        have H := H1
        clear H1
        obtain ⟨t449, A11, H⟩ := bind_p H
        have HC12 := Aside0.mk H
        clear H
        go_upto_if 23 with (first | ((with_reducible refine gate_callee (f := 15) rfl ?_); refine goesL_ (some 23) rfl rfl Tryd.func15 (by kernel_rfl) rfl #[.slice A0 l0.length c0] rfl EQ ?_; (with_reducible refine (samphireref02_Right.calls _ _ l0 t449 _ ?side1 ?side2 A11.out).mono ?_); (case side1 => exact CB HR0); (case side2 => exact HC0.out); rintro e w' ⟨rfl, ⟨nd, rfl⟩⟩; refine ⟨_, rfl, ?_⟩))
        (try simp only [Act.put, List.setIfInBounds_toArray, List.set_cons_zero, List.set_cons_succ])
        go_cut [7] (fun v7 wc => ∃ (kq : Nat) (x7_11 : ByteArray), v7 = .string x7_11 ∧ Aside0 (samphirelaw02_NatTexts.j1 kq l0 a1 x7_11 a2_0 a2_1 = some r) ∧ Aside0 (kq ≤ kj3) ∧ Aside0 (wc.heap[gb446]? = some (.cells #[.int .u64 a2_0, .int .u64 a2_1] 39 (0, 0))) ∧ Aside0 (Below w.heap.size w wc))
        case first =>
          have H := HC12.out
          clear HC12
          by_cases c13 : t449 = true
          · subst c13
            have H1 : ((samphireref02_Text.f kj3 l0).bind fun t450 => (samphirelaw02_NatTexts.j1 kj3 l0 a1 t450 a2_0 a2_1)) = some r := by rw [if_pos rfl] at H; exact H
            clear H
            have H := H1
            clear H1
            obtain ⟨t450, A14, H⟩ := bind_p H
            have H' := Aside0.mk H
            clear H
            go_wp2_with (first | ((with_reducible refine gate_callee (f := 21) rfl ?_); refine goesL_ (some 25) rfl rfl Tryd.func21 (by kernel_rfl) rfl #[.slice A0 l0.length c0] rfl EQ ?_; (with_reducible refine (samphireref02_Text.calls kj3 (fun k_ => k_ < w.heap.size) _ _ l0 t450 _ ?side1 A14.out).mono ?_); (case side1 => exact Kd.V_mk HC0.out (Kd.F_below (Kd.C_F (Kd.heap_int .u32) HR0.out) (by repeat (first | (with_reducible first | exact HB.out | apply below_alloc | apply pw_below_drewN | apply below_drew1 | refine below_set ?_ GE446.out) | exact HB.out)))); rintro e w15 ⟨rfl, hb⟩; refine ⟨_, rfl, ?_⟩; have n0_ := Aside0.mk (blk_below (g := gb446) (o := .cells #[.int .u64 a2_0, .int .u64 a2_1] 39 (0, 0)) (by (with_reducible repeat (first | refine blk_drewN ?_ _ | refine blk_drew ?_ | refine blk_alloc ?_ _)); exact BK446.out) hb); have n1_ := Aside0.mk (below_step (by repeat (first | (with_reducible first | exact HB.out | apply below_alloc | apply pw_below_drewN | apply below_drew1 | refine below_set ?_ GE446.out) | exact HB.out)) hb); clear BK446; clear HB; have BK446 := n0_; have HB := n1_; clear n0_ n1_; (try clear hb); (try clear hb2); (try clear hk); (try clear hi)))
            go_meet
            case rel => exact ⟨_, (t450), (by first | rfl | (simp; done) | (simp [*]; done) | (simp; exact isEmpty_bne _)), H', ⟨by have := HJ3.out; first | omega | exact Nat.le_refl _⟩, ⟨by (with_reducible repeat (first | refine blk_drewN ?_ _ | refine blk_drew ?_ | refine blk_alloc ?_ _)); exact BK446.out⟩, ⟨by repeat (first | (with_reducible first | exact HB.out | apply below_alloc | apply pw_below_drewN | apply below_drew1 | refine below_set ?_ GE446.out) | exact HB.out)⟩⟩
          · replace c13 := Bool.eq_false_iff.mpr c13
            subst c13
            have H1 : (samphirelaw02_NatTexts.j1 kj3 l0 a1 (⟨#[]⟩ : ByteArray) a2_0 a2_1) = some r := by rw [if_neg (show ¬ (false = true) by decide)] at H; exact H
            clear H
            have H := H1
            clear H1
            have H' := Aside0.mk H
            clear H
            go_wp2
            go_meet
            case rel => exact ⟨_, ((⟨#[]⟩ : ByteArray)), (by first | rfl | (simp; done) | (simp [*]; done) | (simp; exact isEmpty_bne _)), H', ⟨by have := HJ3.out; first | omega | exact Nat.le_refl _⟩, ⟨by (with_reducible repeat (first | refine blk_drewN ?_ _ | refine blk_drew ?_ | refine blk_alloc ?_ _)); exact BK446.out⟩, ⟨by repeat (first | (with_reducible first | exact HB.out | apply below_alloc | apply pw_below_drewN | apply below_drew1 | refine below_set ?_ GE446.out) | exact HB.out)⟩⟩
        case rest =>
          clear HC12
          try clear c1
          try clear c2
          try clear p2
          try clear c5
          try clear c7
          try clear c8
          try clear c11
          try clear c12
          try clear c13
          try clear c15
          try clear p2
          obtain ⟨kq, x7_11, rfl, HA, HJ11, BK446, HB⟩ := hcut
          cases kq with
          | zero => exact absurd HA.out (by simp [samphirelaw02_NatTexts.j1])
          | succ kj11 =>
            have H := HA.out
            clear HA
            simp only [samphirelaw02_NatTexts.j1] at H
            obtain ⟨⟨t451, t452⟩, A16, H⟩ := bind_p H
            dsimp only at H
            obtain ⟨⟨t455, t456⟩, A17, H⟩ := bind_p H
            dsimp only at H
            obtain ⟨t459, A18, H⟩ := bind_p H
            obtain ⟨t462, A19, H⟩ := bind_p H
            obtain ⟨y465, Ny465⟩ := let_p (([0, 0, 1] : List Int) : List Int)
            (first | rw [← Ny465.out] at H | simp only [← Ny465.out] at H)
            obtain ⟨t468, A20, H⟩ := bind_p H
            obtain ⟨t471, A21, H⟩ := bind_p H
            obtain ⟨t474, A22, H⟩ := bind_p H
            obtain ⟨c23, H⟩ := ite_p H
            have c23b0 : (t474.toList == x7_11.toList) = true := beq_iff_eq.mpr c23
            have c23b1 : (t474.toList != x7_11.toList) = false := bne_eq_false_iff_eq.mpr c23
            clear c23
            obtain ⟨t475, A24, H⟩ := bind_p H
            by_cases c25 : t475 = true
            · subst c25
              have H1 : (if t452 = t456 then ((nat_Of.f kj11 a2_1).bind fun t476 => ((samphireref02_Of.f kj11 a2_1).bind fun t479 => ((samphireref02_Same.f kj11 t476 t479).bind fun t482 => (if t482 = true then ((nat_From.f kj11 a2_0 a2_1).bind fun t483 => ((samphireref02_Same.f kj11 t483 t471).bind fun t486 => (if t486 = true then ((samphirelaw02_awake.f kj11).bind fun t487 => (some t487)) else (none)))) else (none))))) else (none)) = some r := by rw [if_pos rfl] at H; exact H
              clear H
              have H := H1
              clear H1
              obtain ⟨c26, H⟩ := ite_p H
              have c26b0 : (t452 == t456) = true := beq_iff_eq.mpr c26
              have c26b1 : (t452 != t456) = false := bne_eq_false_iff_eq.mpr c26
              clear c26
              obtain ⟨t476, A27, H⟩ := bind_p H
              obtain ⟨t479, A28, H⟩ := bind_p H
              obtain ⟨t482, A29, H⟩ := bind_p H
              by_cases c30 : t482 = true
              · subst c30
                have H1 : ((nat_From.f kj11 a2_0 a2_1).bind fun t483 => ((samphireref02_Same.f kj11 t483 t471).bind fun t486 => (if t486 = true then ((samphirelaw02_awake.f kj11).bind fun t487 => (some t487)) else (none)))) = some r := by rw [if_pos rfl] at H; exact H
                clear H
                have H := H1
                clear H1
                obtain ⟨t483, A31, H⟩ := bind_p H
                obtain ⟨t486, A32, H⟩ := bind_p H
                by_cases c33 : t486 = true
                · subst c33
                  have H1 : ((samphirelaw02_awake.f kj11).bind fun t487 => (some t487)) = some r := by rw [if_pos rfl] at H; exact H
                  clear H
                  have H := H1
                  clear H1
                  obtain ⟨t487, A34, H⟩ := bind_p H
                  obtain rfl := Option.some.inj H
                  try go_wp2_with (first | ((with_reducible refine gate_callee (f := 22) rfl ?_); refine goesL_ (some 28) rfl rfl Tryd.func22 (by kernel_rfl) rfl #[.string a1] rfl EQ ?_; (with_reducible refine (nat_Read.calls kj11 a1 t451 t452 _ A16.out).mono ?_); rintro e w35 ⟨v453, rfl, ho0, hb⟩; refine ⟨_, rfl, ?_⟩; have n0_ := Aside0.mk (Kd.R_lower ho0 (below_size (by repeat (first | (with_reducible first | exact HB.out | apply below_alloc | apply pw_below_drewN | apply below_drew1 | refine below_set ?_ GE446.out) | exact HB.out)))); have n1_ := Aside0.mk (blk_below (g := gb446) (o := .cells #[.int .u64 a2_0, .int .u64 a2_1] 39 (0, 0)) (by (with_reducible repeat (first | refine blk_drewN ?_ _ | refine blk_drew ?_ | refine blk_alloc ?_ _)); exact BK446.out) hb); have n2_ := Aside0.mk (below_step (by repeat (first | (with_reducible first | exact HB.out | apply below_alloc | apply pw_below_drewN | apply below_drew1 | refine below_set ?_ GE446.out) | exact HB.out)) hb); clear BK446; clear HB; have HO454 := n0_; have BK446 := n1_; have HB := n2_; clear n0_ n1_ n2_; (try clear hb); (try clear hb2); (try clear hk); (try clear hi); (try clear ho0)) | ((with_reducible refine gate_callee (f := 23) rfl ?_); refine goesL_ (some 33) rfl rfl Tryd.func23 (by kernel_rfl) rfl #[.string a1] rfl EQ ?_; (with_reducible refine (samphireref02_Read.calls kj11 a1 t455 t456 _ A17.out).mono ?_); rintro e w36 ⟨v457, rfl, ho0, hb⟩; refine ⟨_, rfl, ?_⟩; have n0_ := Aside0.mk (Kd.R_elder' (RL HO454) (Kd.R_base ho0) hb); have n1_ := Aside0.mk (Kd.R_lower (Kd.R_new' ho0 (Kd.R_lt (RL HO454))) (below_size (by repeat (first | (with_reducible first | exact HB.out | apply below_alloc | apply pw_below_drewN | apply below_drew1 | refine below_set ?_ GE446.out) | exact HB.out)))); have n2_ := Aside0.mk (blk_below (g := gb446) (o := .cells #[.int .u64 a2_0, .int .u64 a2_1] 39 (0, 0)) (by (with_reducible repeat (first | refine blk_drewN ?_ _ | refine blk_drew ?_ | refine blk_alloc ?_ _)); exact BK446.out) hb); have n3_ := Aside0.mk (below_step (by repeat (first | (with_reducible first | exact HB.out | apply below_alloc | apply pw_below_drewN | apply below_drew1 | refine below_set ?_ GE446.out) | exact HB.out)) hb); clear HO454; clear BK446; clear HB; have HO454 := n0_; have HO458 := n1_; have BK446 := n2_; have HB := n3_; clear n0_ n1_ n2_ n3_; (try clear hb); (try clear hb2); (try clear hk); (try clear hi); (try clear ho0)))
                  have n0_ := Aside0.mk (Kd.R_drew HO454.out)
                  have n1_ := Aside0.mk (Kd.R_drew HO458.out)
                  have n2_ := Aside0.mk (blk_drew BK446.out)
                  have n3_ := Aside0.mk (below_drew1 HB.out)
                  clear HO454
                  clear HO458
                  clear BK446
                  clear HB
                  have HO454 := n0_
                  have HO458 := n1_
                  have BK446 := n2_
                  have HB := n3_
                  clear n0_ n1_ n2_ n3_
                  refine start_ (n := 10) (S := fun w' => True) (ds := []) #[false, false, false, false, false, false, false, false, false, false] (by kernel_rfl) rfl rfl trivial (fun hHeld => ?_); refine with_tabW samphirelaw02_NatTexts.tab8 samphirelaw02_NatTexts.bits8 (fun HT_ HW_ => ?_)
                  generalize w36.drew = w37 at HO454 HO458 BK446 HB hHeld ⊢
                  refine pure_ (i := 0) (N := some 36) (v := ?_) (a' := ?_) #[true, false, false, false, false, false, false, false, false, false] rfl rfl (any_of HT_.out (by kernel_rfl)) (fun _ _ _ h => h) (Or.inl ⟨by rfl, ?_⟩) ?_ ?_
                  rotate_left
                  · intro w'
                    go_simp
                    with_reducible rfl
                  rotate_left
                  · simp only [Act.put, List.setIfInBounds_toArray, List.set_cons_zero, List.set_cons_succ, i64_w, i32_w]
                    rfl
                  refine pure_ (i := 3) (N := some 39) (v := ?_) (a' := ?_) #[true, false, false, true, false, false, false, false, false, false] rfl rfl (any_of HT_.out (by kernel_rfl)) (fun _ _ _ h => h) (Or.inl ⟨by rfl, ?_⟩) ?_ ?_
                  rotate_left
                  · intro w'
                    go_simp
                    with_reducible rfl
                  rotate_left
                  · simp only [Act.put, List.setIfInBounds_toArray, List.set_cons_zero, List.set_cons_succ, i64_w, i32_w]
                    rfl
                  refine inv_at [1, 2, 4, 5, 6, 7, 8, 9] (fun a0_ b a w' => ∃ (v460 : Value) (v463 : Value) (v466 : Value) (v469 : Value) (v472 : Value) (m9_ : Value), a = putSel a0_ b [(1, 37, .int .u64 a2_1), (2, 38, v460), (4, 40, .int .u64 a2_0), (5, 41, v463), (6, 42, v466), (7, 43, v469), (8, 44, v472), (9, 12, m9_)] ∧ (Kd.R (Kd.int .u32) 36 w' w.heap.size (fun k_ => some k_ ≠ (v457 : Value).ownBlock) v453 t451) ∧ (Kd.R (Kd.int .u32) 36 w' w.heap.size (fun k_ => some k_ ≠ (v453 : Value).ownBlock) v457 t455) ∧ (w'.heap[gb446]? = some (.cells #[.int .u64 a2_0, .int .u64 a2_1] 39 (0, 0))) ∧ (Below w.heap.size w w') ∧ (b 2 = true → Kd.R (Kd.int .u32) 36 w' w.heap.size (fun k_ => some k_ ≠ (v453 : Value).ownBlock ∧ some k_ ≠ (v457 : Value).ownBlock) v460 t459) ∧ (b 5 = true → Kd.R (Kd.int .u32) 36 w' w.heap.size (fun k_ => some k_ ≠ (v453 : Value).ownBlock ∧ some k_ ≠ (v457 : Value).ownBlock) v463 t462) ∧ (b 6 = true → Kd.R (Kd.int .u32) 36 w' w.heap.size (fun k_ => some k_ ≠ (v453 : Value).ownBlock ∧ some k_ ≠ (v457 : Value).ownBlock) v466 y465) ∧ (b 7 = true → Kd.R (Kd.int .u32) 36 w' w.heap.size (fun k_ => some k_ ≠ (v453 : Value).ownBlock ∧ some k_ ≠ (v457 : Value).ownBlock) v469 t468) ∧ (b 8 = true → Kd.R (Kd.int .u32) 36 w' w.heap.size (fun k_ => some k_ ≠ (v453 : Value).ownBlock ∧ some k_ ≠ (v457 : Value).ownBlock) v472 t471) ∧ (b 9 = true → (m9_ : Value) = v472)) HT_.out HW_.out (by kernel_rfl) (by kernel_rfl) ?_ ?_ ?_
                  · exact ⟨.bool false, .bool false, .bool false, .bool false, .bool false, .bool false, by simp only [putSel, Bool.false_eq_true, if_false], Kd.R_mono HO454.out (fun _ h_ => by first | exact h_.2 | exact ⟨trivial, h_⟩), Kd.R_mono HO458.out (fun _ h_ => by first | exact h_.2 | exact ⟨trivial, h_⟩), BK446.out, HB.out, fun h_ => absurd h_ (by decide), fun h_ => absurd h_ (by decide), fun h_ => absurd h_ (by decide), fun h_ => absurd h_ (by decide), fun h_ => absurd h_ (by decide), fun h_ => absurd h_ (by decide)⟩
                  · skip
                    clear BK446 HB HO454 HO458
                    refine steps_cons ?_ ?_
                    · rintro b a w' ⟨v460, v463, v466, v469, v472, m9_, ha, Q_HO454, Q_HO458, Q_BK446, Q_HB, Q_HO461, Q_HO464, Q_HO467, Q_HO470, Q_HO473, Q_X9_⟩ hb_ hon hoff
                      refine ⟨_, rfl, fun K hK => ?_⟩
                      have e36 : a.tmps[36]? = some (.pointer (some ⟨gb446, 1, none⟩)) := by rw [ha]; exact (putSel_off rfl).trans rfl
                      replace ha := Aside0.mk ha
                      have HO454 := Aside0.mk Q_HO454
                      have HO458 := Aside0.mk Q_HO458
                      have BK446 := Aside0.mk Q_BK446
                      have HB := Aside0.mk Q_HB
                      have hc0_ : w'.cell? ⟨gb446, 0, none⟩ = some (.int .u64 a2_0) := (blk_cell BK446.out 0).trans rfl
                      have hc1_ : w'.cell? ⟨gb446, 1, none⟩ = some (.int .u64 a2_1) := (blk_cell BK446.out 1).trans rfl
                      refine value_ (w1 := w') (v := .int .u64 a2_1) (by rfl) rfl ?_ ?_
                      · go_simp
                        (try simp only [i64_w])
                        try rfl
                      refine hK.out _ _ ⟨v460, v463, v466, v469, v472, m9_, (by rw [ha.out]; exact putSel_upk 0 hb_ rfl rfl rfl), Q_HO454, Q_HO458, Q_BK446, Q_HB, fun h0_ => absurd ((hoff 2 (by kernel_rfl)).symm.trans h0_) (by decide), fun h0_ => absurd ((hoff 5 (by kernel_rfl)).symm.trans h0_) (by decide), Q_HO467, fun h0_ => absurd ((hoff 7 (by kernel_rfl)).symm.trans h0_) (by decide), fun h0_ => absurd ((hoff 8 (by kernel_rfl)).symm.trans h0_) (by decide), fun h0_ => absurd ((hoff 9 (by kernel_rfl)).symm.trans h0_) (by decide)⟩
                    refine steps_cons ?_ ?_
                    · rintro b a w' ⟨v460, v463, v466, v469, v472, m9_, ha, Q_HO454, Q_HO458, Q_BK446, Q_HB, Q_HO461, Q_HO464, Q_HO467, Q_HO470, Q_HO473, Q_X9_⟩ hb_ hon hoff
                      refine ⟨_, rfl, fun K hK => ?_⟩
                      have e37 : a.tmps[37]? = some (.int .u64 a2_1) := by rw [ha]; exact putSel_on (e := (1, 37, .int .u64 a2_1)) 0 rfl rfl (hon 1 (by kernel_rfl)) rfl
                      replace ha := Aside0.mk ha
                      have HO454 := Aside0.mk Q_HO454
                      have HO458 := Aside0.mk Q_HO458
                      have BK446 := Aside0.mk Q_BK446
                      have HB := Aside0.mk Q_HB
                      refine goes_ Tryd.func25 (by kernel_rfl) rfl #[.int .u64 a2_1] (by rfl) rfl rfl (by (try simp only [List.map_toArray, List.map_cons, List.map_nil]); first | done | rfl | (exact congrArg (fun z_ => #[Value.int .u64 z_]) (u64_u8 _)) | (simp only [List.length_drop, List.length_take]; rfl) | (simp [Act.eval, *]; done) | (simp only [Act.eval, *]; rfl)) ?_
                      with_reducible refine (samphireref02_Of.calls kj11 a2_1 t459 _ A18.out).mono ?_
                      rintro e w38 ⟨v460, rfl, ho0, hb⟩
                      refine ⟨_, rfl, ?_⟩
                      have n0_ := Aside0.mk (Kd.R_elder' (RL HO454) (Kd.R_base ho0) hb)
                      have n1_ := Aside0.mk (Kd.R_elder' (RL HO458) (Kd.R_base ho0) hb)
                      have n2_ := Aside0.mk (Kd.R_lower (Kd.R_new' (Kd.R_new' ho0 (Kd.R_lt (RL HO454))) (Kd.R_lt (RL HO458))) (below_size (by repeat (first | (with_reducible first | exact HB.out | apply below_alloc | apply pw_below_drewN | apply below_drew1 | refine below_set ?_ GE446.out) | exact HB.out))))
                      have n3_ := Aside0.mk (blk_below (g := gb446) (o := .cells #[.int .u64 a2_0, .int .u64 a2_1] 39 (0, 0)) (by (with_reducible repeat (first | refine blk_drewN ?_ _ | refine blk_drew ?_ | refine blk_alloc ?_ _)); exact BK446.out) hb)
                      have n4_ := Aside0.mk (below_step (by repeat (first | (with_reducible first | exact HB.out | apply below_alloc | apply pw_below_drewN | apply below_drew1 | refine below_set ?_ GE446.out) | exact HB.out)) hb)
                      have z_HO467 := fun (h0_ : b 6 = true) => (show Kd.R (Kd.int .u32) 36 w38 w.heap.size (fun k_ => some k_ ≠ (v453 : Value).ownBlock ∧ some k_ ≠ (v457 : Value).ownBlock) v466 y465 from by first | exact (Kd.R_elder' (by (with_reducible repeat (first | apply Kd.R_alloc | apply Kd.R_drewN | apply Kd.R_drew)); exact (Q_HO467 h0_)) (Kd.R_base ho0) hb) | exact Kd.R_mono (Kd.R_elder' (by (with_reducible repeat (first | apply Kd.R_alloc | apply Kd.R_drewN | apply Kd.R_drew)); exact (Q_HO467 h0_)) (Kd.R_base ho0) hb) (fun _ h_ => by first | trivial | exact h_ | exact h_.1))
                      clear HO454
                      clear HO458
                      clear BK446
                      clear HB
                      have HO454 := n0_
                      have HO458 := n1_
                      have HO461 := n2_
                      have BK446 := n3_
                      have HB := n4_
                      clear n0_ n1_ n2_ n3_ n4_
                      (try clear hb)
                      (try clear hb2)
                      (try clear hk)
                      (try clear hi)
                      (try clear ho0)
                      refine hK.out _ _ ⟨v460, v463, v466, v469, v472, m9_, (by rw [ha.out]; exact putSel_upk 1 hb_ rfl rfl rfl), (by (with_reducible repeat (first | apply Kd.R_alloc | apply Kd.R_drewN | apply Kd.R_drew)); exact Kd.R_mono HO454.out (fun _ hk => by first | exact ⟨hk.1.2, hk.2⟩ | exact hk.1 | (simp_all; done))), (by (with_reducible repeat (first | apply Kd.R_alloc | apply Kd.R_drewN | apply Kd.R_drew)); exact Kd.R_mono HO458.out (fun _ hk => by first | exact ⟨hk.1.2, hk.2⟩ | exact hk.1 | (simp_all; done))), (by (with_reducible repeat (first | refine blk_drewN ?_ _ | refine blk_drew ?_ | refine blk_alloc ?_ _)); exact BK446.out), (by repeat (first | (with_reducible first | exact HB.out | apply below_alloc | apply pw_below_drewN | apply below_drew1 | refine below_set ?_ GE446.out) | exact HB.out)), fun _ => (by (with_reducible repeat (first | apply Kd.R_alloc | apply Kd.R_drewN | apply Kd.R_drew)); exact Kd.R_mono HO461.out (fun _ hk => by first | exact ⟨hk.1.2, hk.2⟩ | exact hk.1 | (simp_all; done))), fun h0_ => absurd ((hoff 5 (by kernel_rfl)).symm.trans h0_) (by decide), z_HO467, fun h0_ => absurd ((hoff 7 (by kernel_rfl)).symm.trans h0_) (by decide), fun h0_ => absurd ((hoff 8 (by kernel_rfl)).symm.trans h0_) (by decide), fun h0_ => absurd ((hoff 9 (by kernel_rfl)).symm.trans h0_) (by decide)⟩
                    refine steps_cons ?_ ?_
                    · rintro b a w' ⟨v460, v463, v466, v469, v472, m9_, ha, Q_HO454, Q_HO458, Q_BK446, Q_HB, Q_HO461, Q_HO464, Q_HO467, Q_HO470, Q_HO473, Q_X9_⟩ hb_ hon hoff
                      refine ⟨_, rfl, fun K hK => ?_⟩
                      have e39 : a.tmps[39]? = some (.pointer (some ⟨gb446, 0, none⟩)) := by rw [ha]; exact (putSel_off rfl).trans rfl
                      replace ha := Aside0.mk ha
                      have HO454 := Aside0.mk Q_HO454
                      have HO458 := Aside0.mk Q_HO458
                      have BK446 := Aside0.mk Q_BK446
                      have HB := Aside0.mk Q_HB
                      have hc0_ : w'.cell? ⟨gb446, 0, none⟩ = some (.int .u64 a2_0) := (blk_cell BK446.out 0).trans rfl
                      have hc1_ : w'.cell? ⟨gb446, 1, none⟩ = some (.int .u64 a2_1) := (blk_cell BK446.out 1).trans rfl
                      refine value_ (w1 := w') (v := .int .u64 a2_0) (by rfl) rfl ?_ ?_
                      · go_simp
                        (try simp only [i64_w])
                        try rfl
                      refine hK.out _ _ ⟨v460, v463, v466, v469, v472, m9_, (by rw [ha.out]; exact putSel_upk 2 hb_ rfl rfl rfl), Q_HO454, Q_HO458, Q_BK446, Q_HB, Q_HO461, fun h0_ => absurd ((hoff 5 (by kernel_rfl)).symm.trans h0_) (by decide), Q_HO467, fun h0_ => absurd ((hoff 7 (by kernel_rfl)).symm.trans h0_) (by decide), fun h0_ => absurd ((hoff 8 (by kernel_rfl)).symm.trans h0_) (by decide), fun h0_ => absurd ((hoff 9 (by kernel_rfl)).symm.trans h0_) (by decide)⟩
                    refine steps_cons ?_ ?_
                    · rintro b a w' ⟨v460, v463, v466, v469, v472, m9_, ha, Q_HO454, Q_HO458, Q_BK446, Q_HB, Q_HO461, Q_HO464, Q_HO467, Q_HO470, Q_HO473, Q_X9_⟩ hb_ hon hoff
                      refine ⟨_, rfl, fun K hK => ?_⟩
                      have e40 : a.tmps[40]? = some (.int .u64 a2_0) := by rw [ha]; exact putSel_on (e := (4, 40, .int .u64 a2_0)) 2 rfl rfl (hon 4 (by kernel_rfl)) rfl
                      replace ha := Aside0.mk ha
                      have HO454 := Aside0.mk Q_HO454
                      have HO458 := Aside0.mk Q_HO458
                      have BK446 := Aside0.mk Q_BK446
                      have HB := Aside0.mk Q_HB
                      have HO461 := Aside0.mk (Q_HO461 (hon 2 (by kernel_rfl)))
                      refine goes_ Tryd.func25 (by kernel_rfl) rfl #[.int .u64 a2_0] (by rfl) rfl rfl (by (try simp only [List.map_toArray, List.map_cons, List.map_nil]); first | done | rfl | (exact congrArg (fun z_ => #[Value.int .u64 z_]) (u64_u8 _)) | (simp only [List.length_drop, List.length_take]; rfl) | (simp [Act.eval, *]; done) | (simp only [Act.eval, *]; rfl)) ?_
                      with_reducible refine (samphireref02_Of.calls kj11 a2_0 t462 _ A19.out).mono ?_
                      rintro e w40 ⟨v463, rfl, ho0, hb⟩
                      refine ⟨_, rfl, ?_⟩
                      have n0_ := Aside0.mk (Kd.R_elder' (RL HO454) (Kd.R_base ho0) hb)
                      have n1_ := Aside0.mk (Kd.R_elder' (RL HO458) (Kd.R_base ho0) hb)
                      have n2_ := Aside0.mk (Kd.R_elder' (RL HO461) (Kd.R_base ho0) hb)
                      have n3_ := Aside0.mk (Kd.R_lower (Kd.R_new' (Kd.R_new' (Kd.R_new' ho0 (Kd.R_lt (RL HO454))) (Kd.R_lt (RL HO458))) (Kd.R_lt (RL HO461))) (below_size (by repeat (first | (with_reducible first | exact HB.out | apply below_alloc | apply pw_below_drewN | apply below_drew1 | refine below_set ?_ GE446.out) | exact HB.out))))
                      have n4_ := Aside0.mk (blk_below (g := gb446) (o := .cells #[.int .u64 a2_0, .int .u64 a2_1] 39 (0, 0)) (by (with_reducible repeat (first | refine blk_drewN ?_ _ | refine blk_drew ?_ | refine blk_alloc ?_ _)); exact BK446.out) hb)
                      have n5_ := Aside0.mk (below_step (by repeat (first | (with_reducible first | exact HB.out | apply below_alloc | apply pw_below_drewN | apply below_drew1 | refine below_set ?_ GE446.out) | exact HB.out)) hb)
                      have z_HO467 := fun (h0_ : b 6 = true) => (show Kd.R (Kd.int .u32) 36 w40 w.heap.size (fun k_ => some k_ ≠ (v453 : Value).ownBlock ∧ some k_ ≠ (v457 : Value).ownBlock) v466 y465 from by first | exact (Kd.R_elder' (by (with_reducible repeat (first | apply Kd.R_alloc | apply Kd.R_drewN | apply Kd.R_drew)); exact (Q_HO467 h0_)) (Kd.R_base ho0) hb) | exact Kd.R_mono (Kd.R_elder' (by (with_reducible repeat (first | apply Kd.R_alloc | apply Kd.R_drewN | apply Kd.R_drew)); exact (Q_HO467 h0_)) (Kd.R_base ho0) hb) (fun _ h_ => by first | trivial | exact h_ | exact h_.1))
                      clear HO454
                      clear HO458
                      clear HO461
                      clear BK446
                      clear HB
                      have HO454 := n0_
                      have HO458 := n1_
                      have HO461 := n2_
                      have HO464 := n3_
                      have BK446 := n4_
                      have HB := n5_
                      clear n0_ n1_ n2_ n3_ n4_ n5_
                      (try clear hb)
                      (try clear hb2)
                      (try clear hk)
                      (try clear hi)
                      (try clear ho0)
                      refine hK.out _ _ ⟨v460, v463, v466, v469, v472, m9_, (by rw [ha.out]; exact putSel_upk 3 hb_ rfl rfl rfl), (by (with_reducible repeat (first | apply Kd.R_alloc | apply Kd.R_drewN | apply Kd.R_drew)); exact Kd.R_mono HO454.out (fun _ hk => by first | exact ⟨hk.1.1, ⟨hk.1.2, hk.2⟩⟩ | exact hk.1 | (simp_all; done))), (by (with_reducible repeat (first | apply Kd.R_alloc | apply Kd.R_drewN | apply Kd.R_drew)); exact Kd.R_mono HO458.out (fun _ hk => by first | exact ⟨hk.1.1, ⟨hk.1.2, hk.2⟩⟩ | exact hk.1 | (simp_all; done))), (by (with_reducible repeat (first | refine blk_drewN ?_ _ | refine blk_drew ?_ | refine blk_alloc ?_ _)); exact BK446.out), (by repeat (first | (with_reducible first | exact HB.out | apply below_alloc | apply pw_below_drewN | apply below_drew1 | refine below_set ?_ GE446.out) | exact HB.out)), fun _ => (by (with_reducible repeat (first | apply Kd.R_alloc | apply Kd.R_drewN | apply Kd.R_drew)); exact Kd.R_mono HO461.out (fun _ hk => by first | exact ⟨hk.1.1, ⟨hk.1.2, hk.2⟩⟩ | exact hk.1 | (simp_all; done))), fun _ => (by (with_reducible repeat (first | apply Kd.R_alloc | apply Kd.R_drewN | apply Kd.R_drew)); exact Kd.R_mono HO464.out (fun _ hk => by first | exact ⟨hk.1.1.2, ⟨hk.1.2, hk.2⟩⟩ | exact hk.1 | (simp_all; done))), z_HO467, fun h0_ => absurd ((hoff 7 (by kernel_rfl)).symm.trans h0_) (by decide), fun h0_ => absurd ((hoff 8 (by kernel_rfl)).symm.trans h0_) (by decide), fun h0_ => absurd ((hoff 9 (by kernel_rfl)).symm.trans h0_) (by decide)⟩
                    refine steps_cons ?_ ?_
                    · rintro b a w' ⟨v460, v463, v466, v469, v472, m9_, ha, Q_HO454, Q_HO458, Q_BK446, Q_HB, Q_HO461, Q_HO464, Q_HO467, Q_HO470, Q_HO473, Q_X9_⟩ hb_ hon hoff
                      refine ⟨_, rfl, fun K hK => ?_⟩
                      replace ha := Aside0.mk ha
                      have HO454 := Aside0.mk Q_HO454
                      have HO458 := Aside0.mk Q_HO458
                      have BK446 := Aside0.mk Q_BK446
                      have HB := Aside0.mk Q_HB
                      refine Kd.R_lit_step (Kd.int .u32) _ 36 ?hg (N := 42) ?hd (xs := ([0, 0, 1] : List Int)) (inner := [.int .u32 0, .int .u32 0, .int .u32 1]) (ok := fun _ => True) (okp := fun _ => True) ?hr ?hp (fun _ hk => hk) trivial (Below.refl _ _) (Nat.le_refl _) (by simp) ?_; (case hd => rfl); (case hg => rfl); (case hr => first | (go_simp; done) | (go_simp; rfl)); (case hp => exact (Reps.one (show Kd.M (Kd.int .u32) _ _ _ 0 [.int .u32 0] from rfl) (Reps.one (show Kd.M (Kd.int .u32) _ _ _ 0 [.int .u32 0] from rfl) (Reps.one (show Kd.M (Kd.int .u32) _ _ _ 1 [.int .u32 1] from rfl) (Reps.none _ _)))))
                      intro v466 w38 ho39 hb hg_ hnew_
                      clear hg_ hnew_
                      (first | rw [← Ny465.out] at ho39 | (simp only [Int.reduceToNat] at ho39; rw [← Ny465.out] at ho39))
                      have n0_ := Aside0.mk (Kd.R_elder' (RL HO454) (Kd.R_base ho39) hb)
                      have n1_ := Aside0.mk (Kd.R_elder' (RL HO458) (Kd.R_base ho39) hb)
                      have n2_ := Aside0.mk (Kd.R_lower (Kd.R_new' (Kd.R_new' ho39 (Kd.R_lt (RL HO454))) (Kd.R_lt (RL HO458))) (below_size (by repeat (first | (with_reducible first | exact HB.out | apply below_alloc | apply pw_below_drewN | apply below_drew1 | refine below_set ?_ GE446.out) | exact HB.out))))
                      have n3_ := Aside0.mk (blk_below (g := gb446) (o := .cells #[.int .u64 a2_0, .int .u64 a2_1] 39 (0, 0)) (by (with_reducible repeat (first | refine blk_drewN ?_ _ | refine blk_drew ?_ | refine blk_alloc ?_ _)); exact BK446.out) hb)
                      have n4_ := Aside0.mk (below_step (by repeat (first | (with_reducible first | exact HB.out | apply below_alloc | apply pw_below_drewN | apply below_drew1 | refine below_set ?_ GE446.out) | exact HB.out)) hb)
                      have z_HO461 := fun (h0_ : b 2 = true) => (show Kd.R (Kd.int .u32) 36 w38 w.heap.size (fun k_ => some k_ ≠ (v453 : Value).ownBlock ∧ some k_ ≠ (v457 : Value).ownBlock) v460 t459 from by first | exact (Kd.R_elder' (by (with_reducible repeat (first | apply Kd.R_alloc | apply Kd.R_drewN | apply Kd.R_drew)); exact (Q_HO461 h0_)) (Kd.R_base ho39) hb) | exact Kd.R_mono (Kd.R_elder' (by (with_reducible repeat (first | apply Kd.R_alloc | apply Kd.R_drewN | apply Kd.R_drew)); exact (Q_HO461 h0_)) (Kd.R_base ho39) hb) (fun _ h_ => by first | trivial | exact h_ | exact h_.1))
                      have z_HO464 := fun (h0_ : b 5 = true) => (show Kd.R (Kd.int .u32) 36 w38 w.heap.size (fun k_ => some k_ ≠ (v453 : Value).ownBlock ∧ some k_ ≠ (v457 : Value).ownBlock) v463 t462 from by first | exact (Kd.R_elder' (by (with_reducible repeat (first | apply Kd.R_alloc | apply Kd.R_drewN | apply Kd.R_drew)); exact (Q_HO464 h0_)) (Kd.R_base ho39) hb) | exact Kd.R_mono (Kd.R_elder' (by (with_reducible repeat (first | apply Kd.R_alloc | apply Kd.R_drewN | apply Kd.R_drew)); exact (Q_HO464 h0_)) (Kd.R_base ho39) hb) (fun _ h_ => by first | trivial | exact h_ | exact h_.1))
                      clear HO454
                      clear HO458
                      clear BK446
                      clear HB
                      have HO454 := n0_
                      have HO458 := n1_
                      have HO467 := n2_
                      have BK446 := n3_
                      have HB := n4_
                      clear n0_ n1_ n2_ n3_ n4_
                      clear hb ho39
                      refine hK.out _ _ ⟨v460, v463, v466, v469, v472, m9_, (by rw [ha.out]; exact putSel_upk 4 hb_ rfl rfl rfl), (by (with_reducible repeat (first | apply Kd.R_alloc | apply Kd.R_drewN | apply Kd.R_drew)); exact Kd.R_mono HO454.out (fun _ hk => by first | exact ⟨hk.1.2, hk.2⟩ | exact hk.1 | (simp_all; done))), (by (with_reducible repeat (first | apply Kd.R_alloc | apply Kd.R_drewN | apply Kd.R_drew)); exact Kd.R_mono HO458.out (fun _ hk => by first | exact ⟨hk.1.2, hk.2⟩ | exact hk.1 | (simp_all; done))), (by (with_reducible repeat (first | refine blk_drewN ?_ _ | refine blk_drew ?_ | refine blk_alloc ?_ _)); exact BK446.out), (by repeat (first | (with_reducible first | exact HB.out | apply below_alloc | apply pw_below_drewN | apply below_drew1 | refine below_set ?_ GE446.out) | exact HB.out)), z_HO461, z_HO464, fun _ => (by (with_reducible repeat (first | apply Kd.R_alloc | apply Kd.R_drewN | apply Kd.R_drew)); exact Kd.R_mono HO467.out (fun _ hk => by first | exact ⟨hk.1.2, hk.2⟩ | exact hk.1 | (simp_all; done))), fun h0_ => absurd ((hoff 7 (by kernel_rfl)).symm.trans h0_) (by decide), fun h0_ => absurd ((hoff 8 (by kernel_rfl)).symm.trans h0_) (by decide), fun h0_ => absurd ((hoff 9 (by kernel_rfl)).symm.trans h0_) (by decide)⟩
                    refine steps_cons ?_ ?_
                    · rintro b a w' ⟨v460, v463, v466, v469, v472, m9_, ha, Q_HO454, Q_HO458, Q_BK446, Q_HB, Q_HO461, Q_HO464, Q_HO467, Q_HO470, Q_HO473, Q_X9_⟩ hb_ hon hoff
                      refine ⟨_, rfl, fun K hK => ?_⟩
                      have e41 : a.tmps[41]? = some (v463) := by rw [ha]; exact putSel_on (e := (5, 41, v463)) 3 rfl rfl (hon 5 (by kernel_rfl)) rfl
                      have e42 : a.tmps[42]? = some (v466) := by rw [ha]; exact putSel_on (e := (6, 42, v466)) 4 rfl rfl (hon 6 (by kernel_rfl)) rfl
                      replace ha := Aside0.mk ha
                      have HO454 := Aside0.mk Q_HO454
                      have HO458 := Aside0.mk Q_HO458
                      have BK446 := Aside0.mk Q_BK446
                      have HB := Aside0.mk Q_HB
                      have HO461 := Aside0.mk (Q_HO461 (hon 2 (by kernel_rfl)))
                      have HO464 := Aside0.mk (Q_HO464 (hon 5 (by kernel_rfl)))
                      have HO467 := Aside0.mk (Q_HO467 (hon 6 (by kernel_rfl)))
                      obtain ⟨Ao43, co43, eo43⟩ := Kd.R_slice HO464.out
                      (first | subst eo43 | (injection eo43 with f1_ f2_ f3_; have f4_ := f1_.symm; have f5_ := f3_.symm; clear f1_ f2_ f3_; subst f4_; subst f5_))
                      obtain ⟨Ao44, co44, eo44⟩ := Kd.R_slice HO467.out
                      (first | subst eo44 | (injection eo44 with f1_ f2_ f3_; have f4_ := f1_.symm; have f5_ := f3_.symm; clear f1_ f2_ f3_; subst f4_; subst f5_))
                      refine goes_ Tryd.func26 (by kernel_rfl) rfl #[.slice Ao43 t462.length co43, .slice Ao44 y465.length co44] (by rfl) rfl rfl (by (try simp only [List.map_toArray, List.map_cons, List.map_nil]); first | done | rfl | (exact congrArg (fun z_ => #[Value.int .u64 z_]) (u64_u8 _)) | (simp only [List.length_drop, List.length_take]; rfl) | (simp [Act.eval, *]; done) | (simp only [Act.eval, *]; rfl)) ?_
                      with_reducible refine (samphireref02_Mul.calls kj11 _ _ t462 _ _ y465 t468 _ ?side1 ?side2 ?side3 ?side4 A20.out).mono ?_
                      (case side1 => exact RR HO464)
                      (case side2 => exact (Kd.R_reads' HO464.out).2.1)
                      (case side3 => exact RR HO467)
                      (case side4 => exact (Kd.R_reads' HO467.out).2.1)
                      rintro e w45 ⟨v469, rfl, ho0, hb⟩
                      refine ⟨_, rfl, ?_⟩
                      have n0_ := Aside0.mk (Kd.R_elder' (RL HO454) (Kd.R_base ho0) hb)
                      have n1_ := Aside0.mk (Kd.R_elder' (RL HO458) (Kd.R_base ho0) hb)
                      have n2_ := Aside0.mk (Kd.R_elder' (RL HO461) (Kd.R_base ho0) hb)
                      have n3_ := Aside0.mk (Kd.R_elder' (RL HO464) (Kd.R_base ho0) hb)
                      have n4_ := Aside0.mk (Kd.R_elder' (RL HO467) (Kd.R_base ho0) hb)
                      have n5_ := Aside0.mk (Kd.R_lower (Kd.R_new' (Kd.R_new' (Kd.R_new' (Kd.R_new' (Kd.R_new' ho0 (Kd.R_lt (RL HO454))) (Kd.R_lt (RL HO458))) (Kd.R_lt (RL HO461))) (Kd.R_lt (RL HO464))) (Kd.R_lt (RL HO467))) (below_size (by repeat (first | (with_reducible first | exact HB.out | apply below_alloc | apply pw_below_drewN | apply below_drew1 | refine below_set ?_ GE446.out) | exact HB.out))))
                      have n6_ := Aside0.mk (blk_below (g := gb446) (o := .cells #[.int .u64 a2_0, .int .u64 a2_1] 39 (0, 0)) (by (with_reducible repeat (first | refine blk_drewN ?_ _ | refine blk_drew ?_ | refine blk_alloc ?_ _)); exact BK446.out) hb)
                      have n7_ := Aside0.mk (below_step (by repeat (first | (with_reducible first | exact HB.out | apply below_alloc | apply pw_below_drewN | apply below_drew1 | refine below_set ?_ GE446.out) | exact HB.out)) hb)
                      clear HO454
                      clear HO458
                      clear HO461
                      clear HO464
                      clear HO467
                      clear BK446
                      clear HB
                      have HO454 := n0_
                      have HO458 := n1_
                      have HO461 := n2_
                      have HO464 := n3_
                      have HO467 := n4_
                      have HO470 := n5_
                      have BK446 := n6_
                      have HB := n7_
                      clear n0_ n1_ n2_ n3_ n4_ n5_ n6_ n7_
                      (try clear hb)
                      (try clear hb2)
                      (try clear hk)
                      (try clear hi)
                      (try clear ho0)
                      refine hK.out _ _ ⟨v460, .slice Ao43 t462.length co43, .slice Ao44 y465.length co44, v469, v472, m9_, (by rw [ha.out]; exact putSel_upk 5 hb_ rfl rfl rfl), (by (with_reducible repeat (first | apply Kd.R_alloc | apply Kd.R_drewN | apply Kd.R_drew)); exact Kd.R_mono HO454.out (fun _ hk => by first | exact ⟨hk.1.1, ⟨hk.1.2.1, ⟨hk.1.2.2.1, ⟨hk.1.2.2.2, hk.2⟩⟩⟩⟩ | exact hk.1 | (simp_all; done))), (by (with_reducible repeat (first | apply Kd.R_alloc | apply Kd.R_drewN | apply Kd.R_drew)); exact Kd.R_mono HO458.out (fun _ hk => by first | exact ⟨hk.1.1, ⟨hk.1.2.1, ⟨hk.1.2.2.1, ⟨hk.1.2.2.2, hk.2⟩⟩⟩⟩ | exact hk.1 | (simp_all; done))), (by (with_reducible repeat (first | refine blk_drewN ?_ _ | refine blk_drew ?_ | refine blk_alloc ?_ _)); exact BK446.out), (by repeat (first | (with_reducible first | exact HB.out | apply below_alloc | apply pw_below_drewN | apply below_drew1 | refine below_set ?_ GE446.out) | exact HB.out)), fun _ => (by (with_reducible repeat (first | apply Kd.R_alloc | apply Kd.R_drewN | apply Kd.R_drew)); exact Kd.R_mono HO461.out (fun _ hk => by first | exact ⟨hk.1.1, ⟨hk.1.2.1, ⟨hk.1.2.2.1, ⟨hk.1.2.2.2, hk.2⟩⟩⟩⟩ | exact hk.1 | (simp_all; done))), fun _ => (by (with_reducible repeat (first | apply Kd.R_alloc | apply Kd.R_drewN | apply Kd.R_drew)); exact Kd.R_mono HO464.out (fun _ hk => by first | exact ⟨hk.1.1, ⟨hk.1.2.1, ⟨hk.1.2.2.1, ⟨hk.1.2.2.2, hk.2⟩⟩⟩⟩ | exact hk.1 | (simp_all; done))), fun _ => (by (with_reducible repeat (first | apply Kd.R_alloc | apply Kd.R_drewN | apply Kd.R_drew)); exact Kd.R_mono HO467.out (fun _ hk => by first | exact ⟨hk.1.1, ⟨hk.1.2.1, ⟨hk.1.2.2.1, ⟨hk.1.2.2.2, hk.2⟩⟩⟩⟩ | exact hk.1 | (simp_all; done))), fun _ => (by (with_reducible repeat (first | apply Kd.R_alloc | apply Kd.R_drewN | apply Kd.R_drew)); exact Kd.R_mono HO470.out (fun _ hk => by first | exact ⟨hk.1.1.1.1.2, ⟨hk.1.1.1.2, ⟨hk.1.1.2, ⟨hk.1.2, hk.2⟩⟩⟩⟩ | exact hk.1 | (simp_all; done))), fun h0_ => absurd ((hoff 8 (by kernel_rfl)).symm.trans h0_) (by decide), fun h0_ => absurd ((hoff 9 (by kernel_rfl)).symm.trans h0_) (by decide)⟩
                    refine steps_cons ?_ ?_
                    · rintro b a w' ⟨v460, v463, v466, v469, v472, m9_, ha, Q_HO454, Q_HO458, Q_BK446, Q_HB, Q_HO461, Q_HO464, Q_HO467, Q_HO470, Q_HO473, Q_X9_⟩ hb_ hon hoff
                      refine ⟨_, rfl, fun K hK => ?_⟩
                      have e38 : a.tmps[38]? = some (v460) := by rw [ha]; exact putSel_on (e := (2, 38, v460)) 1 rfl rfl (hon 2 (by kernel_rfl)) rfl
                      have e43 : a.tmps[43]? = some (v469) := by rw [ha]; exact putSel_on (e := (7, 43, v469)) 5 rfl rfl (hon 7 (by kernel_rfl)) rfl
                      replace ha := Aside0.mk ha
                      have HO454 := Aside0.mk Q_HO454
                      have HO458 := Aside0.mk Q_HO458
                      have BK446 := Aside0.mk Q_BK446
                      have HB := Aside0.mk Q_HB
                      have HO461 := Aside0.mk (Q_HO461 (hon 2 (by kernel_rfl)))
                      have HO464 := Aside0.mk (Q_HO464 (hon 5 (by kernel_rfl)))
                      have HO467 := Aside0.mk (Q_HO467 (hon 6 (by kernel_rfl)))
                      have HO470 := Aside0.mk (Q_HO470 (hon 7 (by kernel_rfl)))
                      obtain ⟨Ao46, co46, eo46⟩ := Kd.R_slice HO461.out
                      (first | subst eo46 | (injection eo46 with f1_ f2_ f3_; have f4_ := f1_.symm; have f5_ := f3_.symm; clear f1_ f2_ f3_; subst f4_; subst f5_))
                      obtain ⟨Ao47, co47, eo47⟩ := Kd.R_slice HO470.out
                      (first | subst eo47 | (injection eo47 with f1_ f2_ f3_; have f4_ := f1_.symm; have f5_ := f3_.symm; clear f1_ f2_ f3_; subst f4_; subst f5_))
                      refine goes_ Tryd.func24 (by kernel_rfl) rfl #[.slice Ao46 t459.length co46, .slice Ao47 t468.length co47] (by rfl) rfl rfl (by (try simp only [List.map_toArray, List.map_cons, List.map_nil]); first | done | rfl | (exact congrArg (fun z_ => #[Value.int .u64 z_]) (u64_u8 _)) | (simp only [List.length_drop, List.length_take]; rfl) | (simp [Act.eval, *]; done) | (simp only [Act.eval, *]; rfl)) ?_
                      with_reducible refine (samphireref02_Add.calls kj11 _ _ t459 _ _ t468 t471 _ ?side1 ?side2 ?side3 ?side4 A21.out).mono ?_
                      (case side1 => exact RR HO461)
                      (case side2 => exact (Kd.R_reads' HO461.out).2.1)
                      (case side3 => exact RR HO470)
                      (case side4 => exact (Kd.R_reads' HO470.out).2.1)
                      rintro e w48 ⟨v472, rfl, ho0, hb⟩
                      refine ⟨_, rfl, ?_⟩
                      have n0_ := Aside0.mk (Kd.R_elder' (RL HO454) (Kd.R_base ho0) hb)
                      have n1_ := Aside0.mk (Kd.R_elder' (RL HO458) (Kd.R_base ho0) hb)
                      have n2_ := Aside0.mk (Kd.R_elder' (RL HO461) (Kd.R_base ho0) hb)
                      have n3_ := Aside0.mk (Kd.R_elder' (RL HO464) (Kd.R_base ho0) hb)
                      have n4_ := Aside0.mk (Kd.R_elder' (RL HO467) (Kd.R_base ho0) hb)
                      have n5_ := Aside0.mk (Kd.R_elder' (RL HO470) (Kd.R_base ho0) hb)
                      have n6_ := Aside0.mk (Kd.R_lower (Kd.R_new' (Kd.R_new' (Kd.R_new' (Kd.R_new' (Kd.R_new' (Kd.R_new' ho0 (Kd.R_lt (RL HO454))) (Kd.R_lt (RL HO458))) (Kd.R_lt (RL HO461))) (Kd.R_lt (RL HO464))) (Kd.R_lt (RL HO467))) (Kd.R_lt (RL HO470))) (below_size (by repeat (first | (with_reducible first | exact HB.out | apply below_alloc | apply pw_below_drewN | apply below_drew1 | refine below_set ?_ GE446.out) | exact HB.out))))
                      have n7_ := Aside0.mk (blk_below (g := gb446) (o := .cells #[.int .u64 a2_0, .int .u64 a2_1] 39 (0, 0)) (by (with_reducible repeat (first | refine blk_drewN ?_ _ | refine blk_drew ?_ | refine blk_alloc ?_ _)); exact BK446.out) hb)
                      have n8_ := Aside0.mk (below_step (by repeat (first | (with_reducible first | exact HB.out | apply below_alloc | apply pw_below_drewN | apply below_drew1 | refine below_set ?_ GE446.out) | exact HB.out)) hb)
                      clear HO454
                      clear HO458
                      clear HO461
                      clear HO464
                      clear HO467
                      clear HO470
                      clear BK446
                      clear HB
                      have HO454 := n0_
                      have HO458 := n1_
                      have HO461 := n2_
                      have HO464 := n3_
                      have HO467 := n4_
                      have HO470 := n5_
                      have HO473 := n6_
                      have BK446 := n7_
                      have HB := n8_
                      clear n0_ n1_ n2_ n3_ n4_ n5_ n6_ n7_ n8_
                      (try clear hb)
                      (try clear hb2)
                      (try clear hk)
                      (try clear hi)
                      (try clear ho0)
                      refine hK.out _ _ ⟨.slice Ao46 t459.length co46, v463, v466, .slice Ao47 t468.length co47, v472, m9_, (by rw [ha.out]; exact putSel_upk 6 hb_ rfl rfl rfl), (by (with_reducible repeat (first | apply Kd.R_alloc | apply Kd.R_drewN | apply Kd.R_drew)); exact Kd.R_mono HO454.out (fun _ hk => by first | exact ⟨hk.1.1, ⟨hk.1.2.1, ⟨hk.1.2.2.1, ⟨hk.1.2.2.2.1, ⟨hk.1.2.2.2.2, hk.2⟩⟩⟩⟩⟩ | exact hk.1 | (simp_all; done))), (by (with_reducible repeat (first | apply Kd.R_alloc | apply Kd.R_drewN | apply Kd.R_drew)); exact Kd.R_mono HO458.out (fun _ hk => by first | exact ⟨hk.1.1, ⟨hk.1.2.1, ⟨hk.1.2.2.1, ⟨hk.1.2.2.2.1, ⟨hk.1.2.2.2.2, hk.2⟩⟩⟩⟩⟩ | exact hk.1 | (simp_all; done))), (by (with_reducible repeat (first | refine blk_drewN ?_ _ | refine blk_drew ?_ | refine blk_alloc ?_ _)); exact BK446.out), (by repeat (first | (with_reducible first | exact HB.out | apply below_alloc | apply pw_below_drewN | apply below_drew1 | refine below_set ?_ GE446.out) | exact HB.out)), fun _ => (by (with_reducible repeat (first | apply Kd.R_alloc | apply Kd.R_drewN | apply Kd.R_drew)); exact Kd.R_mono HO461.out (fun _ hk => by first | exact ⟨hk.1.1, ⟨hk.1.2.1, ⟨hk.1.2.2.1, ⟨hk.1.2.2.2.1, ⟨hk.1.2.2.2.2, hk.2⟩⟩⟩⟩⟩ | exact hk.1 | (simp_all; done))), fun _ => (by (with_reducible repeat (first | apply Kd.R_alloc | apply Kd.R_drewN | apply Kd.R_drew)); exact Kd.R_mono HO464.out (fun _ hk => by first | exact ⟨hk.1.1, ⟨hk.1.2.1, ⟨hk.1.2.2.1, ⟨hk.1.2.2.2.1, ⟨hk.1.2.2.2.2, hk.2⟩⟩⟩⟩⟩ | exact hk.1 | (simp_all; done))), fun _ => (by (with_reducible repeat (first | apply Kd.R_alloc | apply Kd.R_drewN | apply Kd.R_drew)); exact Kd.R_mono HO467.out (fun _ hk => by first | exact ⟨hk.1.1, ⟨hk.1.2.1, ⟨hk.1.2.2.1, ⟨hk.1.2.2.2.1, ⟨hk.1.2.2.2.2, hk.2⟩⟩⟩⟩⟩ | exact hk.1 | (simp_all; done))), fun _ => (by (with_reducible repeat (first | apply Kd.R_alloc | apply Kd.R_drewN | apply Kd.R_drew)); exact Kd.R_mono HO470.out (fun _ hk => by first | exact ⟨hk.1.1, ⟨hk.1.2.1, ⟨hk.1.2.2.1, ⟨hk.1.2.2.2.1, ⟨hk.1.2.2.2.2, hk.2⟩⟩⟩⟩⟩ | exact hk.1 | (simp_all; done))), fun _ => (by (with_reducible repeat (first | apply Kd.R_alloc | apply Kd.R_drewN | apply Kd.R_drew)); exact Kd.R_mono HO473.out (fun _ hk => by first | exact ⟨hk.1.1.1.1.1.2, ⟨hk.1.1.1.1.2, ⟨hk.1.1.1.2, ⟨hk.1.1.2, ⟨hk.1.2, hk.2⟩⟩⟩⟩⟩ | exact hk.1 | (simp_all; done))), fun h0_ => absurd ((hoff 9 (by kernel_rfl)).symm.trans h0_) (by decide)⟩
                    refine steps_cons ?_ ?_
                    · rintro b a w' ⟨v460, v463, v466, v469, v472, m9_, ha, Q_HO454, Q_HO458, Q_BK446, Q_HB, Q_HO461, Q_HO464, Q_HO467, Q_HO470, Q_HO473, Q_X9_⟩ hb_ hon hoff
                      refine ⟨_, rfl, fun K hK => ?_⟩
                      have e44 : a.tmps[44]? = some (v472) := by rw [ha]; exact putSel_on (e := (8, 44, v472)) 6 rfl rfl (hon 8 (by kernel_rfl)) rfl
                      replace ha := Aside0.mk ha
                      have HO454 := Aside0.mk Q_HO454
                      have HO458 := Aside0.mk Q_HO458
                      have BK446 := Aside0.mk Q_BK446
                      have HB := Aside0.mk Q_HB
                      have HO461 := Aside0.mk (Q_HO461 (hon 2 (by kernel_rfl)))
                      have HO464 := Aside0.mk (Q_HO464 (hon 5 (by kernel_rfl)))
                      have HO467 := Aside0.mk (Q_HO467 (hon 6 (by kernel_rfl)))
                      have HO470 := Aside0.mk (Q_HO470 (hon 7 (by kernel_rfl)))
                      have HO473 := Aside0.mk (Q_HO473 (hon 8 (by kernel_rfl)))
                      refine value_ (w1 := w') (v := v472) (by rfl) rfl ?_ ?_
                      · go_simp
                        (try simp only [i64_w])
                        try rfl
                      refine hK.out _ _ ⟨v460, v463, v466, v469, v472, (v472), (by rw [ha.out]; exact putSel_upk 7 hb_ rfl rfl rfl), Q_HO454, Q_HO458, Q_BK446, Q_HB, Q_HO461, Q_HO464, Q_HO467, Q_HO470, Q_HO473, fun _ => rfl⟩
                    exact steps_nil
                  rintro b a w48 hall ⟨v460, v463, v466, v469, v472, m9_, ha, Q_HO454, Q_HO458, Q_BK446, Q_HB, Q_HO461, Q_HO464, Q_HO467, Q_HO470, Q_HO473, Q_X9_⟩
                  clear BK446 HB HO454 HO458
                  have hb1_ := hall 1 (by kernel_rfl)
                  have hb2_ := hall 2 (by kernel_rfl)
                  have hb4_ := hall 4 (by kernel_rfl)
                  have hb5_ := hall 5 (by kernel_rfl)
                  have hb6_ := hall 6 (by kernel_rfl)
                  have hb7_ := hall 7 (by kernel_rfl)
                  have hb8_ := hall 8 (by kernel_rfl)
                  have hb9_ := hall 9 (by kernel_rfl)
                  subst ha
                  obtain rfl := Q_X9_ hb9_
                  simp only [putSel, hb1_, hb2_, hb4_, hb5_, hb6_, hb7_, hb8_, hb9_, if_true, Act.put, List.setIfInBounds_toArray, List.set_cons_zero, List.set_cons_succ]
                  have HO454 := Aside0.mk Q_HO454
                  clear Q_HO454
                  have HO458 := Aside0.mk Q_HO458
                  clear Q_HO458
                  have BK446 := Aside0.mk Q_BK446
                  clear Q_BK446
                  have HB := Aside0.mk Q_HB
                  clear Q_HB
                  have HO461 := Aside0.mk (Q_HO461 hb2_)
                  clear Q_HO461
                  have HO464 := Aside0.mk (Q_HO464 hb5_)
                  clear Q_HO464
                  have HO467 := Aside0.mk (Q_HO467 hb6_)
                  clear Q_HO467
                  have HO470 := Aside0.mk (Q_HO470 hb7_)
                  clear Q_HO470
                  have HO473 := Aside0.mk (Q_HO473 hb8_)
                  clear Q_HO473
                  clear hall hb1_ hb2_ hb4_ hb5_ hb6_ hb7_ hb8_ hb9_
                  try go_wp2
                  have n0_ := Aside0.mk (Kd.R_drew HO454.out)
                  have n1_ := Aside0.mk (Kd.R_drew HO458.out)
                  have n2_ := Aside0.mk (Kd.R_drew HO461.out)
                  have n3_ := Aside0.mk (Kd.R_drew HO464.out)
                  have n4_ := Aside0.mk (Kd.R_drew HO467.out)
                  have n5_ := Aside0.mk (Kd.R_drew HO470.out)
                  have n6_ := Aside0.mk (Kd.R_drew HO473.out)
                  have n7_ := Aside0.mk (blk_drew BK446.out)
                  have n8_ := Aside0.mk (below_drew1 HB.out)
                  clear HO454
                  clear HO458
                  clear HO461
                  clear HO464
                  clear HO467
                  clear HO470
                  clear HO473
                  clear BK446
                  clear HB
                  have HO454 := n0_
                  have HO458 := n1_
                  have HO461 := n2_
                  have HO464 := n3_
                  have HO467 := n4_
                  have HO470 := n5_
                  have HO473 := n6_
                  have BK446 := n7_
                  have HB := n8_
                  clear n0_ n1_ n2_ n3_ n4_ n5_ n6_ n7_ n8_
                  refine start_ (n := 33) (S := fun w' => w'.cell? ⟨gb446, 0, none⟩ = some (.int .u64 a2_0) ∧ w'.cell? ⟨gb446, 1, none⟩ = some (.int .u64 a2_1)) (ds := []) #[false, false, false, false, false, false, false, false, false, false, false, false, false, false, false, false, false, false, false, false, false, false, false, false, false, false, false, false, false, false, false, false, false] (by kernel_rfl) rfl rfl ⟨(blk_cell BK446.out 0).trans rfl, (blk_cell BK446.out 1).trans rfl⟩ (fun hHeld => ?_); refine with_tabW samphirelaw02_NatTexts.tab9 samphirelaw02_NatTexts.bits9 (fun HT_ HW_ => ?_)
                  generalize w48.drew = w49 at HO454 HO458 HO461 HO464 HO467 HO470 HO473 BK446 HB hHeld ⊢
                  refine pure_ (i := 0) (N := some 45) (v := ?_) (a' := ?_) #[true, false, false, false, false, false, false, false, false, false, false, false, false, false, false, false, false, false, false, false, false, false, false, false, false, false, false, false, false, false, false, false, false] rfl rfl (any_of HT_.out (by kernel_rfl)) (fun _ _ _ h => h) (Or.inl ⟨by rfl, ?_⟩) ?_ ?_
                  rotate_left
                  · intro w'
                    go_simp
                    with_reducible rfl
                  rotate_left
                  · simp only [Act.put, List.setIfInBounds_toArray, List.set_cons_zero, List.set_cons_succ, i64_w, i32_w]
                    rfl
                  refine pure_ (i := 2) (N := some 47) (v := ?_) (a' := ?_) #[true, false, true, false, false, false, false, false, false, false, false, false, false, false, false, false, false, false, false, false, false, false, false, false, false, false, false, false, false, false, false, false, false] rfl rfl (any_of HT_.out (by kernel_rfl)) (fun _ _ _ h => h) (Or.inl ⟨by rfl, ?_⟩) ?_ ?_
                  rotate_left
                  · intro w'
                    go_simp
                    with_reducible rfl
                  rotate_left
                  · simp only [Act.put, List.setIfInBounds_toArray, List.set_cons_zero, List.set_cons_succ, i64_w, i32_w]
                    rfl
                  refine one_ (i := 1) (N := some 46) #[true, true, true, false, false, false, false, false, false, false, false, false, false, false, false, false, false, false, false, false, false, false, false, false, false, false, false, false, false, false, false, false, false] rfl rfl (one_of HT_.out (by kernel_rfl)) (by decide) (fun K hK => ?_)
                  refine goes_ Tryd.func27 (by kernel_rfl) rfl #[.slice A0 l0.length c0] (by rfl) rfl rfl (by (try simp only [List.map_toArray, List.map_cons, List.map_nil]); first | done | rfl | (exact congrArg (fun z_ => #[Value.int .u64 z_]) (u64_u8 _)) | (simp only [List.length_drop, List.length_take]; rfl) | (simp [Act.eval, *]; done) | (simp only [Act.eval, *]; rfl)) ?_
                  with_reducible refine (nat_Text.calls kj11 (fun k_ => k_ < w.heap.size) _ _ l0 t474 _ ?side1 A22.out).mono ?_
                  (case side1 => exact Kd.V_mk HC0.out (Kd.F_below (Kd.C_F (Kd.heap_int .u32) HR0.out) (by repeat (first | (with_reducible first | exact HB.out | apply below_alloc | apply pw_below_drewN | apply below_drew1 | refine below_set ?_ GE446.out) | exact HB.out))))
                  rintro e w50 ⟨rfl, hb⟩
                  refine ⟨_, rfl, ?_⟩
                  have n0_ := Aside0.mk (Kd.R_below (RL HO454) hb)
                  have n1_ := Aside0.mk (Kd.R_below (RL HO458) hb)
                  have n2_ := Aside0.mk (Kd.R_below (RL HO461) hb)
                  have n3_ := Aside0.mk (Kd.R_below (RL HO464) hb)
                  have n4_ := Aside0.mk (Kd.R_below (RL HO467) hb)
                  have n5_ := Aside0.mk (Kd.R_below (RL HO470) hb)
                  have n6_ := Aside0.mk (Kd.R_below (RL HO473) hb)
                  have n7_ := Aside0.mk (blk_below (g := gb446) (o := .cells #[.int .u64 a2_0, .int .u64 a2_1] 39 (0, 0)) (by (with_reducible repeat (first | refine blk_drewN ?_ _ | refine blk_drew ?_ | refine blk_alloc ?_ _)); exact BK446.out) hb)
                  have n8_ := Aside0.mk (below_step (by repeat (first | (with_reducible first | exact HB.out | apply below_alloc | apply pw_below_drewN | apply below_drew1 | refine below_set ?_ GE446.out) | exact HB.out)) hb)
                  clear HO454
                  clear HO458
                  clear HO461
                  clear HO464
                  clear HO467
                  clear HO470
                  clear HO473
                  clear BK446
                  clear HB
                  have HO454 := n0_
                  have HO458 := n1_
                  have HO461 := n2_
                  have HO464 := n3_
                  have HO467 := n4_
                  have HO470 := n5_
                  have HO473 := n6_
                  have BK446 := n7_
                  have HB := n8_
                  clear n0_ n1_ n2_ n3_ n4_ n5_ n6_ n7_ n8_
                  (try clear hb)
                  (try clear hb2)
                  (try clear hk)
                  (try clear hi)
                  obtain ⟨Ao51, co51, eo51⟩ := Kd.R_slice HO454.out
                  (first | subst eo51 | (injection eo51 with f1_ f2_ f3_; have f4_ := f1_.symm; have f5_ := f3_.symm; clear f1_ f2_ f3_; subst f4_; subst f5_))
                  obtain ⟨Ao52, co52, eo52⟩ := Kd.R_slice HO458.out
                  (first | subst eo52 | (injection eo52 with f1_ f2_ f3_; have f4_ := f1_.symm; have f5_ := f3_.symm; clear f1_ f2_ f3_; subst f4_; subst f5_))
                  refine hK.out _ _ ⟨(blk_cell BK446.out 0).trans rfl, (blk_cell BK446.out 1).trans rfl⟩ (fun hHeld => ?_)
                  clear hK K
                  refine norm_ (a' := ?_) ?_ ?_
                  rotate_left
                  · show Act.put _ (some 46) _ = _
                    simp only [Act.put, List.setIfInBounds_toArray, List.set_cons_zero, List.set_cons_succ, i64_w, i32_w]
                    rfl
                  refine pure_ (i := 3) (N := some 48) (v := ?_) (a' := ?_) #[true, true, true, true, false, false, false, false, false, false, false, false, false, false, false, false, false, false, false, false, false, false, false, false, false, false, false, false, false, false, false, false, false] rfl rfl (any_of HT_.out (by kernel_rfl)) (fun _ _ _ h => h) (Or.inl ⟨by rfl, ?_⟩) ?_ ?_
                  rotate_left
                  · intro w'
                    go_simp
                    with_reducible rfl
                  rotate_left
                  · simp only [Act.put, List.setIfInBounds_toArray, List.set_cons_zero, List.set_cons_succ, i64_w, i32_w]
                    rfl
                  refine pure_ (i := 4) (N := some 49) (v := ?_) (a' := ?_) #[true, true, true, true, true, false, false, false, false, false, false, false, false, false, false, false, false, false, false, false, false, false, false, false, false, false, false, false, false, false, false, false, false] rfl rfl (any_of HT_.out (by kernel_rfl)) (fun _ _ _ h => h) (Or.inl ⟨by rfl, ?_⟩) ?_ ?_
                  rotate_left
                  · intro w'
                    go_simp
                    with_reducible rfl
                  rotate_left
                  · simp only [Act.put, List.setIfInBounds_toArray, List.set_cons_zero, List.set_cons_succ, i64_w, i32_w]
                    rfl
                  refine pure_ (i := 5) (N := some 50) (v := ?_) (a' := ?_) #[true, true, true, true, true, true, false, false, false, false, false, false, false, false, false, false, false, false, false, false, false, false, false, false, false, false, false, false, false, false, false, false, false] rfl rfl (any_of HT_.out (by kernel_rfl)) (fun _ _ _ h => h) (Or.inl ⟨by rfl, ?_⟩) ?_ ?_
                  rotate_left
                  · intro w'
                    go_simp
                    with_reducible rfl
                  rotate_left
                  · simp only [Act.put, List.setIfInBounds_toArray, List.set_cons_zero, List.set_cons_succ, i64_w, i32_w]
                    rfl
                  refine pure_ (i := 6) (N := some 51) (v := ?_) (a' := ?_) #[true, true, true, true, true, true, true, false, false, false, false, false, false, false, false, false, false, false, false, false, false, false, false, false, false, false, false, false, false, false, false, false, false] rfl rfl (any_of HT_.out (by kernel_rfl)) (fun _ _ _ h => h) (Or.inl ⟨by rfl, ?_⟩) ?_ ?_
                  rotate_left
                  · intro w'
                    go_simp
                    with_reducible rfl
                  rotate_left
                  · simp only [Act.put, List.setIfInBounds_toArray, List.set_cons_zero, List.set_cons_succ, i64_w, i32_w]
                    rfl
                  refine one_ (i := 7) (N := some 52) #[true, true, true, true, true, true, true, true, false, false, false, false, false, false, false, false, false, false, false, false, false, false, false, false, false, false, false, false, false, false, false, false, false] rfl rfl (one_of HT_.out (by kernel_rfl)) (by decide) (fun K hK => ?_)
                  refine goes_ Tryd.func19 (by kernel_rfl) rfl #[.slice Ao51 t451.length co51, .slice Ao52 t455.length co52] (by rfl) rfl rfl (by (try simp only [List.map_toArray, List.map_cons, List.map_nil]); first | done | rfl | (exact congrArg (fun z_ => #[Value.int .u64 z_]) (u64_u8 _)) | (simp only [List.length_drop, List.length_take]; rfl) | (simp [Act.eval, *]; done) | (simp only [Act.eval, *]; rfl)) ?_
                  with_reducible refine (samphireref02_Same.calls kj11 _ _ t451 _ _ t455 true _ ?side1 ?side2 ?side3 ?side4 A24.out).mono ?_
                  (case side1 => exact RR HO454)
                  (case side2 => exact (Kd.R_reads' HO454.out).2.1)
                  (case side3 => exact RR HO458)
                  (case side4 => exact (Kd.R_reads' HO458.out).2.1)
                  rintro e w' ⟨rfl, ⟨nd, rfl⟩⟩
                  refine ⟨_, rfl, ?_⟩
                  refine hK.out _ _ ⟨(blk_cell BK446.out 0).trans rfl, (blk_cell BK446.out 1).trans rfl⟩ (fun hHeld => ?_)
                  clear hK K
                  refine norm_ (a' := ?_) ?_ ?_
                  rotate_left
                  · show Act.put _ (some 52) _ = _
                    simp only [Act.put, List.setIfInBounds_toArray, List.set_cons_zero, List.set_cons_succ, i64_w, i32_w]
                    rfl
                  refine pure_ (i := 8) (N := some 53) (v := ?_) (a' := ?_) #[true, true, true, true, true, true, true, true, true, false, false, false, false, false, false, false, false, false, false, false, false, false, false, false, false, false, false, false, false, false, false, false, false] rfl rfl (any_of HT_.out (by kernel_rfl)) (fun _ _ _ h => h) (Or.inl ⟨by rfl, ?_⟩) ?_ ?_
                  rotate_left
                  · intro w'
                    go_simp
                    with_reducible rfl
                  rotate_left
                  · simp only [Act.put, List.setIfInBounds_toArray, List.set_cons_zero, List.set_cons_succ, i64_w, i32_w]
                    rfl
                  refine pure_ (i := 9) (N := some 54) (v := ?_) (a' := ?_) #[true, true, true, true, true, true, true, true, true, true, false, false, false, false, false, false, false, false, false, false, false, false, false, false, false, false, false, false, false, false, false, false, false] rfl rfl (any_of HT_.out (by kernel_rfl)) (fun _ _ _ h => h) (Or.inl ⟨by rfl, ?_⟩) ?_ ?_
                  rotate_left
                  · intro w'
                    go_simp
                    with_reducible rfl
                  rotate_left
                  · simp only [Act.put, List.setIfInBounds_toArray, List.set_cons_zero, List.set_cons_succ, i64_w, i32_w]
                    rfl
                  refine pure_ (i := 10) (N := some 55) (v := ?_) (a' := ?_) #[true, true, true, true, true, true, true, true, true, true, true, false, false, false, false, false, false, false, false, false, false, false, false, false, false, false, false, false, false, false, false, false, false] rfl rfl (any_of HT_.out (by kernel_rfl)) (fun _ _ _ h => h) (Or.inl ⟨by rfl, ?_⟩) ?_ ?_
                  rotate_left
                  · intro w'
                    go_simp
                    with_reducible rfl
                  rotate_left
                  · simp only [Act.put, List.setIfInBounds_toArray, List.set_cons_zero, List.set_cons_succ, i64_w, i32_w]
                    rfl
                  refine pure_ (i := 11) (N := some 56) (v := ?_) (a' := ?_) #[true, true, true, true, true, true, true, true, true, true, true, true, false, false, false, false, false, false, false, false, false, false, false, false, false, false, false, false, false, false, false, false, false] rfl rfl (any_of HT_.out (by kernel_rfl)) (fun _ _ _ h => h) (Or.inl ⟨by rfl, ?_⟩) ?_ ?_
                  rotate_left
                  · intro w'
                    go_simp
                    with_reducible rfl
                  rotate_left
                  · simp only [Act.put, List.setIfInBounds_toArray, List.set_cons_zero, List.set_cons_succ, i64_w, i32_w]
                    rfl
                  refine pure_ (i := 12) (N := some 57) (v := ?_) (a' := ?_) #[true, true, true, true, true, true, true, true, true, true, true, true, true, false, false, false, false, false, false, false, false, false, false, false, false, false, false, false, false, false, false, false, false] rfl rfl (any_of HT_.out (by kernel_rfl)) (fun _ _ _ h => h) (Or.inl ⟨by rfl, ?_⟩) ?_ ?_
                  rotate_left
                  · intro w'
                    go_simp
                    with_reducible rfl
                  rotate_left
                  · simp only [Act.put, List.setIfInBounds_toArray, List.set_cons_zero, List.set_cons_succ, i64_w, i32_w]
                    rfl
                  refine pure_ (i := 13) (N := some 58) (v := ?_) (a' := ?_) #[true, true, true, true, true, true, true, true, true, true, true, true, true, true, false, false, false, false, false, false, false, false, false, false, false, false, false, false, false, false, false, false, false] rfl rfl (any_of HT_.out (by kernel_rfl)) (fun _ _ _ h => h) (Or.inl ⟨by rfl, ?_⟩) ?_ ?_
                  rotate_left
                  · intro w'
                    go_simp
                    with_reducible rfl
                  rotate_left
                  · simp only [Act.put, List.setIfInBounds_toArray, List.set_cons_zero, List.set_cons_succ, i64_w, i32_w]
                    rfl
                  refine pure_ (i := 14) (N := some 59) (v := ?_) (a' := ?_) #[true, true, true, true, true, true, true, true, true, true, true, true, true, true, true, false, false, false, false, false, false, false, false, false, false, false, false, false, false, false, false, false, false] rfl rfl (any_of HT_.out (by kernel_rfl)) (fun _ _ _ h => h) (Or.inl ⟨by rfl, ?_⟩) ?_ ?_
                  rotate_left
                  · intro w'
                    go_simp
                    with_reducible rfl
                  rotate_left
                  · simp only [Act.put, List.setIfInBounds_toArray, List.set_cons_zero, List.set_cons_succ, i64_w, i32_w]
                    rfl
                  refine pure_ (i := 15) (N := some 60) (v := ?_) (a' := ?_) #[true, true, true, true, true, true, true, true, true, true, true, true, true, true, true, true, false, false, false, false, false, false, false, false, false, false, false, false, false, false, false, false, false] rfl rfl (any_of HT_.out (by kernel_rfl)) (fun _ _ _ h => h) (Or.inl ⟨by rfl, ?_⟩) ?_ ?_
                  rotate_left
                  · intro w'
                    go_simp
                    with_reducible rfl
                  rotate_left
                  · simp only [Act.put, List.setIfInBounds_toArray, List.set_cons_zero, List.set_cons_succ, i64_w, i32_w]
                    rfl
                  refine pure_ (i := 18) (N := some 63) (v := ?_) (a' := ?_) #[true, true, true, true, true, true, true, true, true, true, true, true, true, true, true, true, false, false, true, false, false, false, false, false, false, false, false, false, false, false, false, false, false] rfl rfl (any_of HT_.out (by kernel_rfl)) (fun _ _ _ h => h) (Or.inl ⟨by rfl, ?_⟩) ?_ ?_
                  rotate_left
                  · intro w'
                    go_simp
                    with_reducible rfl
                  rotate_left
                  · simp only [Act.put, List.setIfInBounds_toArray, List.set_cons_zero, List.set_cons_succ, i64_w, i32_w]
                    rfl
                  refine take_ (i := 16) (N := some 61) (v := ?_) (a' := ?_) #[true, true, true, true, true, true, true, true, true, true, true, true, true, true, true, true, true, false, true, false, false, false, false, false, false, false, false, false, false, false, false, false, false] rfl rfl (take_ofW HT_.out HW_.out (by kernel_rfl)) (fun _ _ _ h => h) (Or.inl ⟨by rfl, ?_⟩) hHeld ?_ ?_
                  rotate_left
                  · rintro w' ⟨s0, s1⟩
                    go_simp
                    with_reducible rfl
                  rotate_left
                  · simp only [Act.put, List.setIfInBounds_toArray, List.set_cons_zero, List.set_cons_succ, i64_w, i32_w]
                    rfl
                  refine take_ (i := 19) (N := some 64) (v := ?_) (a' := ?_) #[true, true, true, true, true, true, true, true, true, true, true, true, true, true, true, true, true, false, true, true, false, false, false, false, false, false, false, false, false, false, false, false, false] rfl rfl (take_ofW HT_.out HW_.out (by kernel_rfl)) (fun _ _ _ h => h) (Or.inl ⟨by rfl, ?_⟩) hHeld ?_ ?_
                  rotate_left
                  · rintro w' ⟨s0, s1⟩
                    go_simp
                    with_reducible rfl
                  rotate_left
                  · simp only [Act.put, List.setIfInBounds_toArray, List.set_cons_zero, List.set_cons_succ, i64_w, i32_w]
                    rfl
                  refine one_ (i := 17) (N := some 62) #[true, true, true, true, true, true, true, true, true, true, true, true, true, true, true, true, true, true, true, true, false, false, false, false, false, false, false, false, false, false, false, false, false] rfl rfl (one_of HT_.out (by kernel_rfl)) (by decide) (fun K hK => ?_)
                  refine goes_ Tryd.func28 (by kernel_rfl) rfl #[.int .u64 a2_1] (by rfl) rfl rfl (by (try simp only [List.map_toArray, List.map_cons, List.map_nil]); first | done | rfl | (exact congrArg (fun z_ => #[Value.int .u64 z_]) (u64_u8 _)) | (simp only [List.length_drop, List.length_take]; rfl) | (simp [Act.eval, *]; done) | (simp only [Act.eval, *]; rfl)) ?_
                  with_reducible refine (nat_Of.calls kj11 a2_1 t476 _ A27.out).mono ?_
                  rintro e w53 ⟨v477, rfl, ho0, hb⟩
                  refine ⟨_, rfl, ?_⟩
                  have n0_ := Aside0.mk (Kd.R_elder' (RL HO454) (Kd.R_base ho0) hb)
                  have n1_ := Aside0.mk (Kd.R_elder' (RL HO458) (Kd.R_base ho0) hb)
                  have n2_ := Aside0.mk (Kd.R_elder' (RL HO461) (Kd.R_base ho0) hb)
                  have n3_ := Aside0.mk (Kd.R_elder' (RL HO464) (Kd.R_base ho0) hb)
                  have n4_ := Aside0.mk (Kd.R_elder' (RL HO467) (Kd.R_base ho0) hb)
                  have n5_ := Aside0.mk (Kd.R_elder' (RL HO470) (Kd.R_base ho0) hb)
                  have n6_ := Aside0.mk (Kd.R_elder' (RL HO473) (Kd.R_base ho0) hb)
                  have n7_ := Aside0.mk (Kd.R_lower (Kd.R_new' (Kd.R_new' (Kd.R_new' (Kd.R_new' (Kd.R_new' (Kd.R_new' (Kd.R_new' ho0 (Kd.R_lt (RL HO454))) (Kd.R_lt (RL HO458))) (Kd.R_lt (RL HO461))) (Kd.R_lt (RL HO464))) (Kd.R_lt (RL HO467))) (Kd.R_lt (RL HO470))) (Kd.R_lt (RL HO473))) (below_size (by repeat (first | (with_reducible first | exact HB.out | apply below_alloc | apply pw_below_drewN | apply below_drew1 | refine below_set ?_ GE446.out) | exact HB.out))))
                  have n8_ := Aside0.mk (blk_below (g := gb446) (o := .cells #[.int .u64 a2_0, .int .u64 a2_1] 39 (0, 0)) (by (with_reducible repeat (first | refine blk_drewN ?_ _ | refine blk_drew ?_ | refine blk_alloc ?_ _)); exact BK446.out) hb)
                  have n9_ := Aside0.mk (below_step (by repeat (first | (with_reducible first | exact HB.out | apply below_alloc | apply pw_below_drewN | apply below_drew1 | refine below_set ?_ GE446.out) | exact HB.out)) hb)
                  clear HO454
                  clear HO458
                  clear HO461
                  clear HO464
                  clear HO467
                  clear HO470
                  clear HO473
                  clear BK446
                  clear HB
                  have HO454 := n0_
                  have HO458 := n1_
                  have HO461 := n2_
                  have HO464 := n3_
                  have HO467 := n4_
                  have HO470 := n5_
                  have HO473 := n6_
                  have HO478 := n7_
                  have BK446 := n8_
                  have HB := n9_
                  clear n0_ n1_ n2_ n3_ n4_ n5_ n6_ n7_ n8_ n9_
                  (try clear hb)
                  (try clear hb2)
                  (try clear hk)
                  (try clear hi)
                  (try clear ho0)
                  refine hK.out _ _ ⟨(blk_cell BK446.out 0).trans rfl, (blk_cell BK446.out 1).trans rfl⟩ (fun hHeld => ?_)
                  clear hK K
                  refine norm_ (a' := ?_) ?_ ?_
                  rotate_left
                  · show Act.put _ (some 62) _ = _
                    simp only [Act.put, List.setIfInBounds_toArray, List.set_cons_zero, List.set_cons_succ, i64_w, i32_w]
                    rfl
                  refine one_ (i := 20) (N := some 65) #[true, true, true, true, true, true, true, true, true, true, true, true, true, true, true, true, true, true, true, true, true, false, false, false, false, false, false, false, false, false, false, false, false] rfl rfl (one_of HT_.out (by kernel_rfl)) (by decide) (fun K hK => ?_)
                  refine goes_ Tryd.func25 (by kernel_rfl) rfl #[.int .u64 a2_1] (by rfl) rfl rfl (by (try simp only [List.map_toArray, List.map_cons, List.map_nil]); first | done | rfl | (exact congrArg (fun z_ => #[Value.int .u64 z_]) (u64_u8 _)) | (simp only [List.length_drop, List.length_take]; rfl) | (simp [Act.eval, *]; done) | (simp only [Act.eval, *]; rfl)) ?_
                  with_reducible refine (samphireref02_Of.calls kj11 a2_1 t479 _ A28.out).mono ?_
                  rintro e w54 ⟨v480, rfl, ho0, hb⟩
                  refine ⟨_, rfl, ?_⟩
                  have n0_ := Aside0.mk (Kd.R_elder' (RL HO454) (Kd.R_base ho0) hb)
                  have n1_ := Aside0.mk (Kd.R_elder' (RL HO458) (Kd.R_base ho0) hb)
                  have n2_ := Aside0.mk (Kd.R_elder' (RL HO461) (Kd.R_base ho0) hb)
                  have n3_ := Aside0.mk (Kd.R_elder' (RL HO464) (Kd.R_base ho0) hb)
                  have n4_ := Aside0.mk (Kd.R_elder' (RL HO467) (Kd.R_base ho0) hb)
                  have n5_ := Aside0.mk (Kd.R_elder' (RL HO470) (Kd.R_base ho0) hb)
                  have n6_ := Aside0.mk (Kd.R_elder' (RL HO473) (Kd.R_base ho0) hb)
                  have n7_ := Aside0.mk (Kd.R_elder' (RL HO478) (Kd.R_base ho0) hb)
                  have n8_ := Aside0.mk (Kd.R_lower (Kd.R_new' (Kd.R_new' (Kd.R_new' (Kd.R_new' (Kd.R_new' (Kd.R_new' (Kd.R_new' (Kd.R_new' ho0 (Kd.R_lt (RL HO454))) (Kd.R_lt (RL HO458))) (Kd.R_lt (RL HO461))) (Kd.R_lt (RL HO464))) (Kd.R_lt (RL HO467))) (Kd.R_lt (RL HO470))) (Kd.R_lt (RL HO473))) (Kd.R_lt (RL HO478))) (below_size (by repeat (first | (with_reducible first | exact HB.out | apply below_alloc | apply pw_below_drewN | apply below_drew1 | refine below_set ?_ GE446.out) | exact HB.out))))
                  have n9_ := Aside0.mk (blk_below (g := gb446) (o := .cells #[.int .u64 a2_0, .int .u64 a2_1] 39 (0, 0)) (by (with_reducible repeat (first | refine blk_drewN ?_ _ | refine blk_drew ?_ | refine blk_alloc ?_ _)); exact BK446.out) hb)
                  have n10_ := Aside0.mk (below_step (by repeat (first | (with_reducible first | exact HB.out | apply below_alloc | apply pw_below_drewN | apply below_drew1 | refine below_set ?_ GE446.out) | exact HB.out)) hb)
                  clear HO454
                  clear HO458
                  clear HO461
                  clear HO464
                  clear HO467
                  clear HO470
                  clear HO473
                  clear HO478
                  clear BK446
                  clear HB
                  have HO454 := n0_
                  have HO458 := n1_
                  have HO461 := n2_
                  have HO464 := n3_
                  have HO467 := n4_
                  have HO470 := n5_
                  have HO473 := n6_
                  have HO478 := n7_
                  have HO481 := n8_
                  have BK446 := n9_
                  have HB := n10_
                  clear n0_ n1_ n2_ n3_ n4_ n5_ n6_ n7_ n8_ n9_ n10_
                  (try clear hb)
                  (try clear hb2)
                  (try clear hk)
                  (try clear hi)
                  (try clear ho0)
                  obtain ⟨Ao55, co55, eo55⟩ := Kd.R_slice HO478.out
                  (first | subst eo55 | (injection eo55 with f1_ f2_ f3_; have f4_ := f1_.symm; have f5_ := f3_.symm; clear f1_ f2_ f3_; subst f4_; subst f5_))
                  obtain ⟨Ao56, co56, eo56⟩ := Kd.R_slice HO481.out
                  (first | subst eo56 | (injection eo56 with f1_ f2_ f3_; have f4_ := f1_.symm; have f5_ := f3_.symm; clear f1_ f2_ f3_; subst f4_; subst f5_))
                  refine hK.out _ _ ⟨(blk_cell BK446.out 0).trans rfl, (blk_cell BK446.out 1).trans rfl⟩ (fun hHeld => ?_)
                  clear hK K
                  refine norm_ (a' := ?_) ?_ ?_
                  rotate_left
                  · show Act.put _ (some 65) _ = _
                    simp only [Act.put, List.setIfInBounds_toArray, List.set_cons_zero, List.set_cons_succ, i64_w, i32_w]
                    rfl
                  refine one_ (i := 21) (N := some 66) #[true, true, true, true, true, true, true, true, true, true, true, true, true, true, true, true, true, true, true, true, true, true, false, false, false, false, false, false, false, false, false, false, false] rfl rfl (one_of HT_.out (by kernel_rfl)) (by decide) (fun K hK => ?_)
                  refine goes_ Tryd.func19 (by kernel_rfl) rfl #[.slice Ao55 t476.length co55, .slice Ao56 t479.length co56] (by rfl) rfl rfl (by (try simp only [List.map_toArray, List.map_cons, List.map_nil]); first | done | rfl | (exact congrArg (fun z_ => #[Value.int .u64 z_]) (u64_u8 _)) | (simp only [List.length_drop, List.length_take]; rfl) | (simp [Act.eval, *]; done) | (simp only [Act.eval, *]; rfl)) ?_
                  with_reducible refine (samphireref02_Same.calls kj11 _ _ t476 _ _ t479 true _ ?side1 ?side2 ?side3 ?side4 A29.out).mono ?_
                  (case side1 => exact RR HO478)
                  (case side2 => exact (Kd.R_reads' HO478.out).2.1)
                  (case side3 => exact RR HO481)
                  (case side4 => exact (Kd.R_reads' HO481.out).2.1)
                  rintro e w' ⟨rfl, ⟨nd, rfl⟩⟩
                  refine ⟨_, rfl, ?_⟩
                  refine hK.out _ _ ⟨(blk_cell BK446.out 0).trans rfl, (blk_cell BK446.out 1).trans rfl⟩ (fun hHeld => ?_)
                  clear hK K
                  refine norm_ (a' := ?_) ?_ ?_
                  rotate_left
                  · show Act.put _ (some 66) _ = _
                    simp only [Act.put, List.setIfInBounds_toArray, List.set_cons_zero, List.set_cons_succ, i64_w, i32_w]
                    rfl
                  refine pure_ (i := 22) (N := some 67) (v := ?_) (a' := ?_) #[true, true, true, true, true, true, true, true, true, true, true, true, true, true, true, true, true, true, true, true, true, true, true, false, false, false, false, false, false, false, false, false, false] rfl rfl (any_of HT_.out (by kernel_rfl)) (fun _ _ _ h => h) (Or.inl ⟨by rfl, ?_⟩) ?_ ?_
                  rotate_left
                  · intro w'
                    go_simp
                    with_reducible rfl
                  rotate_left
                  · simp only [Act.put, List.setIfInBounds_toArray, List.set_cons_zero, List.set_cons_succ, i64_w, i32_w]
                    rfl
                  refine pure_ (i := 23) (N := some 68) (v := ?_) (a' := ?_) #[true, true, true, true, true, true, true, true, true, true, true, true, true, true, true, true, true, true, true, true, true, true, true, true, false, false, false, false, false, false, false, false, false] rfl rfl (any_of HT_.out (by kernel_rfl)) (fun _ _ _ h => h) (Or.inl ⟨by rfl, ?_⟩) ?_ ?_
                  rotate_left
                  · intro w'
                    go_simp
                    with_reducible rfl
                  rotate_left
                  · simp only [Act.put, List.setIfInBounds_toArray, List.set_cons_zero, List.set_cons_succ, i64_w, i32_w]
                    rfl
                  refine pure_ (i := 26) (N := some 71) (v := ?_) (a' := ?_) #[true, true, true, true, true, true, true, true, true, true, true, true, true, true, true, true, true, true, true, true, true, true, true, true, false, false, true, false, false, false, false, false, false] rfl rfl (any_of HT_.out (by kernel_rfl)) (fun _ _ _ h => h) (Or.inl ⟨by rfl, ?_⟩) ?_ ?_
                  rotate_left
                  · intro w'
                    go_simp
                    with_reducible rfl
                  rotate_left
                  · simp only [Act.put, List.setIfInBounds_toArray, List.set_cons_zero, List.set_cons_succ, i64_w, i32_w]
                    rfl
                  refine take_ (i := 24) (N := some 69) (v := ?_) (a' := ?_) #[true, true, true, true, true, true, true, true, true, true, true, true, true, true, true, true, true, true, true, true, true, true, true, true, true, false, true, false, false, false, false, false, false] rfl rfl (take_ofW HT_.out HW_.out (by kernel_rfl)) (fun _ _ _ h => h) (Or.inl ⟨by rfl, ?_⟩) hHeld ?_ ?_
                  rotate_left
                  · rintro w' ⟨s0, s1⟩
                    go_simp
                    with_reducible rfl
                  rotate_left
                  · simp only [Act.put, List.setIfInBounds_toArray, List.set_cons_zero, List.set_cons_succ, i64_w, i32_w]
                    rfl
                  refine one_ (i := 25) (N := some 70) #[true, true, true, true, true, true, true, true, true, true, true, true, true, true, true, true, true, true, true, true, true, true, true, true, true, true, true, false, false, false, false, false, false] rfl rfl (one_of HT_.out (by kernel_rfl)) (by decide) (fun K hK => ?_)
                  refine goes_ Tryd.func29 (by kernel_rfl) rfl #[.agg #[.int .u64 a2_0, .int .u64 a2_1]] (by rfl) rfl rfl (by (try simp only [List.map_toArray, List.map_cons, List.map_nil]); first | done | rfl | (exact congrArg (fun z_ => #[Value.int .u64 z_]) (u64_u8 _)) | (simp only [List.length_drop, List.length_take]; rfl) | (simp [Act.eval, *]; done) | (simp only [Act.eval, *]; rfl)) ?_
                  with_reducible refine (nat_From.calls kj11 a2_0 a2_1 t483 _ A31.out).mono ?_
                  rintro e w57 ⟨v484, rfl, ho0, hb⟩
                  refine ⟨_, rfl, ?_⟩
                  have n0_ := Aside0.mk (Kd.R_elder' (RL HO454) (Kd.R_base ho0) hb)
                  have n1_ := Aside0.mk (Kd.R_elder' (RL HO458) (Kd.R_base ho0) hb)
                  have n2_ := Aside0.mk (Kd.R_elder' (RL HO461) (Kd.R_base ho0) hb)
                  have n3_ := Aside0.mk (Kd.R_elder' (RL HO464) (Kd.R_base ho0) hb)
                  have n4_ := Aside0.mk (Kd.R_elder' (RL HO467) (Kd.R_base ho0) hb)
                  have n5_ := Aside0.mk (Kd.R_elder' (RL HO470) (Kd.R_base ho0) hb)
                  have n6_ := Aside0.mk (Kd.R_elder' (RL HO473) (Kd.R_base ho0) hb)
                  have n7_ := Aside0.mk (Kd.R_elder' (RL HO478) (Kd.R_base ho0) hb)
                  have n8_ := Aside0.mk (Kd.R_elder' (RL HO481) (Kd.R_base ho0) hb)
                  have n9_ := Aside0.mk (Kd.R_lower (Kd.R_new' (Kd.R_new' (Kd.R_new' (Kd.R_new' (Kd.R_new' (Kd.R_new' (Kd.R_new' (Kd.R_new' (Kd.R_new' ho0 (Kd.R_lt (RL HO454))) (Kd.R_lt (RL HO458))) (Kd.R_lt (RL HO461))) (Kd.R_lt (RL HO464))) (Kd.R_lt (RL HO467))) (Kd.R_lt (RL HO470))) (Kd.R_lt (RL HO473))) (Kd.R_lt (RL HO478))) (Kd.R_lt (RL HO481))) (below_size (by repeat (first | (with_reducible first | exact HB.out | apply below_alloc | apply pw_below_drewN | apply below_drew1 | refine below_set ?_ GE446.out) | exact HB.out))))
                  have n10_ := Aside0.mk (blk_below (g := gb446) (o := .cells #[.int .u64 a2_0, .int .u64 a2_1] 39 (0, 0)) (by (with_reducible repeat (first | refine blk_drewN ?_ _ | refine blk_drew ?_ | refine blk_alloc ?_ _)); exact BK446.out) hb)
                  have n11_ := Aside0.mk (below_step (by repeat (first | (with_reducible first | exact HB.out | apply below_alloc | apply pw_below_drewN | apply below_drew1 | refine below_set ?_ GE446.out) | exact HB.out)) hb)
                  clear HO454
                  clear HO458
                  clear HO461
                  clear HO464
                  clear HO467
                  clear HO470
                  clear HO473
                  clear HO478
                  clear HO481
                  clear BK446
                  clear HB
                  have HO454 := n0_
                  have HO458 := n1_
                  have HO461 := n2_
                  have HO464 := n3_
                  have HO467 := n4_
                  have HO470 := n5_
                  have HO473 := n6_
                  have HO478 := n7_
                  have HO481 := n8_
                  have HO485 := n9_
                  have BK446 := n10_
                  have HB := n11_
                  clear n0_ n1_ n2_ n3_ n4_ n5_ n6_ n7_ n8_ n9_ n10_ n11_
                  (try clear hb)
                  (try clear hb2)
                  (try clear hk)
                  (try clear hi)
                  (try clear ho0)
                  obtain ⟨Ao58, co58, eo58⟩ := Kd.R_slice HO485.out
                  (first | subst eo58 | (injection eo58 with f1_ f2_ f3_; have f4_ := f1_.symm; have f5_ := f3_.symm; clear f1_ f2_ f3_; subst f4_; subst f5_))
                  obtain ⟨Ao59, co59, eo59⟩ := Kd.R_slice HO473.out
                  (first | subst eo59 | (injection eo59 with f1_ f2_ f3_; have f4_ := f1_.symm; have f5_ := f3_.symm; clear f1_ f2_ f3_; subst f4_; subst f5_))
                  refine hK.out _ _ ⟨(blk_cell BK446.out 0).trans rfl, (blk_cell BK446.out 1).trans rfl⟩ (fun hHeld => ?_)
                  clear hK K
                  refine norm_ (a' := ?_) ?_ ?_
                  rotate_left
                  · show Act.put _ (some 70) _ = _
                    simp only [Act.put, List.setIfInBounds_toArray, List.set_cons_zero, List.set_cons_succ, i64_w, i32_w]
                    rfl
                  refine one_ (i := 27) (N := some 72) #[true, true, true, true, true, true, true, true, true, true, true, true, true, true, true, true, true, true, true, true, true, true, true, true, true, true, true, true, false, false, false, false, false] rfl rfl (one_of HT_.out (by kernel_rfl)) (by decide) (fun K hK => ?_)
                  refine goes_ Tryd.func19 (by kernel_rfl) rfl #[.slice Ao58 t483.length co58, .slice Ao59 t471.length co59] (by rfl) rfl rfl (by (try simp only [List.map_toArray, List.map_cons, List.map_nil]); first | done | rfl | (exact congrArg (fun z_ => #[Value.int .u64 z_]) (u64_u8 _)) | (simp only [List.length_drop, List.length_take]; rfl) | (simp [Act.eval, *]; done) | (simp only [Act.eval, *]; rfl)) ?_
                  with_reducible refine (samphireref02_Same.calls kj11 _ _ t483 _ _ t471 true _ ?side1 ?side2 ?side3 ?side4 A32.out).mono ?_
                  (case side1 => exact RR HO485)
                  (case side2 => exact (Kd.R_reads' HO485.out).2.1)
                  (case side3 => exact RR HO473)
                  (case side4 => exact (Kd.R_reads' HO473.out).2.1)
                  rintro e w' ⟨rfl, ⟨nd, rfl⟩⟩
                  refine ⟨_, rfl, ?_⟩
                  refine hK.out _ _ ⟨(blk_cell BK446.out 0).trans rfl, (blk_cell BK446.out 1).trans rfl⟩ (fun hHeld => ?_)
                  clear hK K
                  refine norm_ (a' := ?_) ?_ ?_
                  rotate_left
                  · show Act.put _ (some 72) _ = _
                    simp only [Act.put, List.setIfInBounds_toArray, List.set_cons_zero, List.set_cons_succ, i64_w, i32_w]
                    rfl
                  refine pure_ (i := 28) (N := some 73) (v := ?_) (a' := ?_) #[true, true, true, true, true, true, true, true, true, true, true, true, true, true, true, true, true, true, true, true, true, true, true, true, true, true, true, true, true, false, false, false, false] rfl rfl (any_of HT_.out (by kernel_rfl)) (fun _ _ _ h => h) (Or.inl ⟨by rfl, ?_⟩) ?_ ?_
                  rotate_left
                  · intro w'
                    go_simp
                    with_reducible rfl
                  rotate_left
                  · simp only [Act.put, List.setIfInBounds_toArray, List.set_cons_zero, List.set_cons_succ, i64_w, i32_w]
                    rfl
                  refine pure_ (i := 29) (N := some 74) (v := ?_) (a' := ?_) #[true, true, true, true, true, true, true, true, true, true, true, true, true, true, true, true, true, true, true, true, true, true, true, true, true, true, true, true, true, true, false, false, false] rfl rfl (any_of HT_.out (by kernel_rfl)) (fun _ _ _ h => h) (Or.inl ⟨by rfl, ?_⟩) ?_ ?_
                  rotate_left
                  · intro w'
                    go_simp
                    with_reducible rfl
                  rotate_left
                  · simp only [Act.put, List.setIfInBounds_toArray, List.set_cons_zero, List.set_cons_succ, i64_w, i32_w]
                    rfl
                  refine one_ (i := 30) (N := some 75) #[true, true, true, true, true, true, true, true, true, true, true, true, true, true, true, true, true, true, true, true, true, true, true, true, true, true, true, true, true, true, true, false, false] rfl rfl (one_of HT_.out (by kernel_rfl)) (by decide) (fun K hK => ?_)
                  refine goes_ Tryd.func12 (by kernel_rfl) rfl #[] (by rfl) rfl rfl (by (try simp only [List.map_toArray, List.map_cons, List.map_nil]); first | done | rfl | (exact congrArg (fun z_ => #[Value.int .u64 z_]) (u64_u8 _)) | (simp only [List.length_drop, List.length_take]; rfl) | (simp [Act.eval, *]; done) | (simp only [Act.eval, *]; rfl)) ?_
                  with_reducible refine (samphirelaw02_awake.calls kj11  t487 _ A34.out).mono ?_
                  rintro e w60 ⟨rfl, hb⟩
                  refine ⟨_, rfl, ?_⟩
                  have n0_ := Aside0.mk (Kd.R_below (RL HO454) hb)
                  have n1_ := Aside0.mk (Kd.R_below (RL HO458) hb)
                  have n2_ := Aside0.mk (Kd.R_below (RL HO461) hb)
                  have n3_ := Aside0.mk (Kd.R_below (RL HO464) hb)
                  have n4_ := Aside0.mk (Kd.R_below (RL HO467) hb)
                  have n5_ := Aside0.mk (Kd.R_below (RL HO470) hb)
                  have n6_ := Aside0.mk (Kd.R_below (RL HO473) hb)
                  have n7_ := Aside0.mk (Kd.R_below (RL HO478) hb)
                  have n8_ := Aside0.mk (Kd.R_below (RL HO481) hb)
                  have n9_ := Aside0.mk (Kd.R_below (RL HO485) hb)
                  have n10_ := Aside0.mk (blk_below (g := gb446) (o := .cells #[.int .u64 a2_0, .int .u64 a2_1] 39 (0, 0)) (by (with_reducible repeat (first | refine blk_drewN ?_ _ | refine blk_drew ?_ | refine blk_alloc ?_ _)); exact BK446.out) hb)
                  have n11_ := Aside0.mk (below_step (by repeat (first | (with_reducible first | exact HB.out | apply below_alloc | apply pw_below_drewN | apply below_drew1 | refine below_set ?_ GE446.out) | exact HB.out)) hb)
                  clear HO454
                  clear HO458
                  clear HO461
                  clear HO464
                  clear HO467
                  clear HO470
                  clear HO473
                  clear HO478
                  clear HO481
                  clear HO485
                  clear BK446
                  clear HB
                  have HO454 := n0_
                  have HO458 := n1_
                  have HO461 := n2_
                  have HO464 := n3_
                  have HO467 := n4_
                  have HO470 := n5_
                  have HO473 := n6_
                  have HO478 := n7_
                  have HO481 := n8_
                  have HO485 := n9_
                  have BK446 := n10_
                  have HB := n11_
                  clear n0_ n1_ n2_ n3_ n4_ n5_ n6_ n7_ n8_ n9_ n10_ n11_
                  (try clear hb)
                  (try clear hb2)
                  (try clear hk)
                  (try clear hi)
                  refine hK.out _ _ ⟨(blk_cell BK446.out 0).trans rfl, (blk_cell BK446.out 1).trans rfl⟩ (fun hHeld => ?_)
                  clear hK K
                  refine norm_ (a' := ?_) ?_ ?_
                  rotate_left
                  · show Act.put _ (some 75) _ = _
                    simp only [Act.put, List.setIfInBounds_toArray, List.set_cons_zero, List.set_cons_succ, i64_w, i32_w]
                    rfl
                  refine pure_ (i := 31) (N := some 76) (v := ?_) (a' := ?_) #[true, true, true, true, true, true, true, true, true, true, true, true, true, true, true, true, true, true, true, true, true, true, true, true, true, true, true, true, true, true, true, true, false] rfl rfl (any_of HT_.out (by kernel_rfl)) (fun _ _ _ h => h) (Or.inl ⟨by rfl, ?_⟩) ?_ ?_
                  rotate_left
                  · intro w'
                    go_simp
                    with_reducible rfl
                  rotate_left
                  · simp only [Act.put, List.setIfInBounds_toArray, List.set_cons_zero, List.set_cons_succ, i64_w, i32_w]
                    rfl
                  refine pure_ (i := 32) (N := some 6) (v := ?_) (a' := ?_) #[true, true, true, true, true, true, true, true, true, true, true, true, true, true, true, true, true, true, true, true, true, true, true, true, true, true, true, true, true, true, true, true, true] rfl rfl (any_of HT_.out (by kernel_rfl)) (fun _ _ _ h => h) (Or.inl ⟨by rfl, ?_⟩) ?_ ?_
                  rotate_left
                  · intro w'
                    go_simp
                    with_reducible rfl
                  rotate_left
                  · simp only [Act.put, List.setIfInBounds_toArray, List.set_cons_zero, List.set_cons_succ, i64_w, i32_w]
                    rfl
                  refine done_ (done_of HT_.out (by kernel_rfl)) ?_
                  try go_wp2
                  go_ret
                  exact ⟨by first | rfl | (simp [errW_none, errW_some] <;> rfl) | (simp [*, errW_none, errW_some] <;> rfl), by repeat (first | (with_reducible first | exact HB.out | apply below_alloc | apply pw_below_drewN | apply below_drew1 | refine below_set ?_ GE446.out) | exact HB.out)⟩
                · replace c33 := Bool.eq_false_iff.mpr c33
                  subst c33
                  have H1 : (none) = some r := by rw [if_neg (show ¬ (false = true) by decide)] at H; exact H
                  clear H
                  have H := H1
                  clear H1
                  cases H
              · replace c30 := Bool.eq_false_iff.mpr c30
                subst c30
                have H1 : (none) = some r := by rw [if_neg (show ¬ (false = true) by decide)] at H; exact H
                clear H
                have H := H1
                clear H1
                cases H
            · replace c25 := Bool.eq_false_iff.mpr c25
              subst c25
              have H1 : (none) = some r := by rw [if_neg (show ¬ (false = true) by decide)] at H; exact H
              clear H
              have H := H1
              clear H1
              cases H

end Go.Proofs.YtdgbeejhccogpaaDoor.T
