/- Items over plain data: RankOrder. No condition. -/
import Derived.Test.YtjipfimhmfhmhaaDoorU6
import Derived.Test.YtjipfimhmfhmhaaDoorUC
namespace Go.Proofs.YtjipfimhmfhmhaaDoor.Z
open Go Go.RowKit Go.Proofs.YtjipfimhmfhmhaaDoor.E Go.Proofs.YtjipfimhmfhmhaaDoor.G Go.Proofs.YtjipfimhmfhmhaaDoor.K Go.Proofs.YtjipfimhmfhmhaaDoor.F Go.Proofs.YtjipfimhmfhmhaaDoor.M Go.Proofs.YtjipfimhmfhmhaaDoor.R
open Go.Proofs.YtjipfimhmfhmhaaDoorW.PrintWords hiding rd
set_option linter.all false

set_option maxRecDepth 100000
set_option maxHeartbeats 4000000
/-- What a rank is: two numbers. -/
theorem rk_rt {k : ByteArray} {u w : Int} (hx : It.ok ⟨k, u, w⟩) (h : chkIt ⟨k, u, w⟩ = 0) : ∃ a b g : Nat, 0 < g ∧ 0 < b ∧ u = (a * g : Nat) ∧ w = (b * g : Nat) ∧ a < 18446744073709551616 ∧ b < 18446744073709551616 ∧ Rt (rkN ⟨k, u, w⟩) (rkD ⟨k, u, w⟩) a b := by
  obtain ⟨a, ea, ha⟩ := u64_ex hx.1
  obtain ⟨b, eb, hb⟩ := u64_ex hx.2
  obtain ⟨r1, r2, r3⟩ := rk_of ea eb h
  have hg : 0 < Nat.gcd a b := Nat.gcd_pos_of_pos_right _ (by omega)
  have h1 : a / Nat.gcd a b < 18446744073709551616 := Nat.lt_of_le_of_lt (Nat.div_le_self _ _) ha
  have h2 : b / Nat.gcd a b < 18446744073709551616 := Nat.lt_of_le_of_lt (Nat.div_le_self _ _) hb
  have h3 : 0 < b / Nat.gcd a b := Nat.div_pos (Nat.le_of_dvd (by omega) (Nat.gcd_dvd_right a b)) hg
  refine ⟨a / Nat.gcd a b, b / Nat.gcd a b, Nat.gcd a b, hg, h3, ?_, ?_, h1, h2, r1, r2, big64 h1, big64 h2, h3, ?_⟩
  · rw [Nat.div_mul_cancel (Nat.gcd_dvd_left a b)]; exact ea
  · rw [Nat.div_mul_cancel (Nat.gcd_dvd_right a b)]; exact eb
  · exact Nat.gcd_div_gcd_div_gcd_of_pos_right (by omega)
theorem fits64 {a b c d : Nat} (ha : a < 18446744073709551616) (hb : b < 18446744073709551616) (hc : c < 18446744073709551616) (hd : d < 18446744073709551616) : Fits a b c d := by
  have h : 340282366920938463463374607431768211456 < Big := by decide
  have h1 : a * d ≤ 18446744073709551615 * 18446744073709551615 := Nat.mul_le_mul (by omega) (by omega)
  have h2 : c * b ≤ 18446744073709551615 * 18446744073709551615 := Nat.mul_le_mul (by omega) (by omega)
  exact ⟨Nat.lt_trans (by omega) h, Nat.lt_trans (by omega) h⟩
theorem cmpI_ord (x y : Nat) : cmpI x y = ordI x y := by
  unfold cmpI ordI
  repeat' split
  all_goals omega
theorem cmpI_scale {a b c d g h : Nat} (hg : 0 < g) (hh : 0 < h) : cmpI (a * d) (c * b) = ordI (((a * g : Nat) : Int) * ((d * h : Nat) : Int)) (((c * h : Nat) : Int) * ((b * g : Nat) : Int)) := by
  rw [cmpI_ord, ← ordI_scale' (n := ((g * h : Nat) : Int)) (by have := Nat.mul_pos hg hh; omega)]
  congr 1 <;> push_cast <;> grind
theorem ord_eq {x y : It} {o : Int} (h : o = ordI (x.u * y.w) (y.u * x.w)) : (o ≠ 0 → o = cmpIt x y) ∧ (cmpIt x y = 0 ↔ o = 0 ∧ x.key = y.key) := by
  subst h
  exact ⟨fun h => (if_pos h).symm, cmp_zero⟩
theorem chk_pos' {x : It} (hx : x.ok) (h : chkIt x = 0) : 0 < x.w := by
  have h1 := chk_pos h
  have h2 := hx.2.1
  omega
def rorderRun (A : Lz) (args : List FV) (q : FV → FV → Prop) : Prop :=
  match args with
  | [.agg [.str k, .int .u64 u, .int .u64 w], .agg [.str k', .int .u64 u', .int .u64 w'], .agg [.str k2, .int .u64 u2, .int .u64 w2]] => (A _ fun _ => It.ok ⟨k, u, w⟩ ∧ It.ok ⟨k', u', w'⟩ ∧ It.ok ⟨k2, u2, w2⟩) ∧ q (.bool true) .dead
  | _ => False
theorem rorder_ok : SpecOk EV 8 ⟨false, rorderRun⟩ := by
  refine spec_go (.cons (f := 20) check_ok (.cons (f := 15) rank_ok (.cons (f := 18) cmpIt_ok (.cons (f := 28) ratCmp_ok (.cons (f := 14) awake_ok (.nil _)))))) (fn := Tryd.f8) rfl rfl Tryd.func8 rfl false [] _ ?_
  intro A hA args q h
  unfold rorderRun at h
  split at h
  · rename_i k u w k' u' w' k2 u2 w2
    obtain ⟨⟨hx, hy, hz⟩, h⟩ := h
    have hx : It.ok ⟨k, u, w⟩ := hx
    have hy : It.ok ⟨k', u', w'⟩ := hy
    have hz' : It.ok ⟨k2, u2, w2⟩ := hz
    clear hz
    have i1 := And.intro hx hy
    have i2 := And.intro hy hz'
    have i3 := And.intro hx hz'
    have i4 := And.intro hy hx
    refine ⟨Nat.le_of_ble_eq_true rfl, ?_⟩
    cbv
    repeat' (first | (refine And.intro (by (try simp only [List.length_replicate, Int.zero_tmod, toIs_ii, ii_len, Int.zero_tdiv, w0, hA, nE, shl, shr, std, zE32, zE64, nc, nth_rd', i64w, u32_wrap, p32, p31, p63, w6432, toIs_len, set_toIs, repl_toIs, app_toIs, tos1, tos0, p1, take_toIs, drop_toIs, ieq_iff, ieq_iff', ilt_iff, ilt_iff', ile_iff, ile_iff', gt_iff_lt, ge_iff_le, Bool.not_eq_true', Bool.not_eq_false', List.drop_zero, Nat.sub_zero]); first | done | exact ix ‹_› ‹_› | exact ix (Int.le_refl 0) ‹_› | decide | exact ap4 ‹_› | exact ap8 ‹_› | exact mk4 ‹_› ‹_› | exact mk8 ‹_› ‹_› | exact ix' ‹_› ‹_› | assumption | omega) ?_; cbv) | (split <;> rename_i hz <;> (try simp only [List.length_replicate, Int.zero_tmod, toIs_ii, ii_len, Int.zero_tdiv, w0, hA, nE, shl, shr, std, zE32, zE64, nc, nth_rd', i64w, u32_wrap, p32, p31, p63, w6432, toIs_len, set_toIs, repl_toIs, app_toIs, tos1, tos0, p1, take_toIs, drop_toIs, ieq_iff, ieq_iff', ilt_iff, ilt_iff', ile_iff, ile_iff', gt_iff_lt, ge_iff_le, Bool.not_eq_true', Bool.not_eq_false', List.drop_zero, Nat.sub_zero] at hz) <;> first | contradiction | (exfalso; omega) | (exfalso; have hz2 := hz.symm.trans ‹_ = true›; cases hz2; done) | (exfalso; have hz2 := hz.symm.trans ‹_ = false›; cases hz2; done) | cbv))
    any_goals (subst hA; exact h; done)
    obtain ⟨a1, b1, g1, p1, p2, p3, p4, p5, p6, r1⟩ := rk_rt hx ‹_›
    obtain ⟨a2, b2, g2, q1, q2, q3, q4, q5, q6, r2⟩ := rk_rt hy ‹_›
    have hf := fits64 p5 p6 q5 q6
    have ho : cmpI (a1 * b2) (a2 * b1) = ordI (u * w') (u' * w) := by rw [cmpI_scale p1 q1, p3, p4, q3, q4]
    refine ⟨a1, b1, a2, b2, ⟨by rw [au hA, au hA]; exact r1, by rw [au hA, au hA]; exact r2⟩, ?_⟩
    cbv
    simp only [if_pos hf, ho]
    repeat' (first | (refine And.intro (by (try simp only [List.length_replicate, Int.zero_tmod, toIs_ii, ii_len, Int.zero_tdiv, w0, hA, nE, shl, shr, std, zE32, zE64, nc, nth_rd', i64w, u32_wrap, p32, p31, p63, w6432, toIs_len, set_toIs, repl_toIs, app_toIs, tos1, tos0, p1, take_toIs, drop_toIs, ieq_iff, ieq_iff', ilt_iff, ilt_iff', ile_iff, ile_iff', gt_iff_lt, ge_iff_le, Bool.not_eq_true', Bool.not_eq_false', List.drop_zero, Nat.sub_zero]); first | done | exact ix ‹_› ‹_› | exact ix (Int.le_refl 0) ‹_› | decide | exact ap4 ‹_› | exact ap8 ‹_› | exact mk4 ‹_› ‹_› | exact mk8 ‹_› ‹_› | exact ix' ‹_› ‹_› | assumption | omega) ?_; cbv) | (split <;> rename_i hz <;> (try simp only [List.length_replicate, Int.zero_tmod, toIs_ii, ii_len, Int.zero_tdiv, w0, hA, nE, shl, shr, std, zE32, zE64, nc, nth_rd', i64w, u32_wrap, p32, p31, p63, w6432, toIs_len, set_toIs, repl_toIs, app_toIs, tos1, tos0, p1, take_toIs, drop_toIs, ieq_iff, ieq_iff', ilt_iff, ilt_iff', ile_iff, ile_iff', gt_iff_lt, ge_iff_le, Bool.not_eq_true', Bool.not_eq_false', List.drop_zero, Nat.sub_zero] at hz) <;> first | contradiction | (exfalso; omega) | (exfalso; have hz2 := hz.symm.trans ‹_ = true›; cases hz2; done) | (exfalso; have hz2 := hz.symm.trans ‹_ = false›; cases hz2; done) | cbv))
    all_goals
      subst hA
      first
      | exact h
      | (exfalso
         clear r1 r2 hf ho
         have w1 : 0 < w := chk_pos' hx ‹_›
         have w2' : 0 < w' := chk_pos' hy ‹_›
         have w3 : 0 < w2 := chk_pos' hz' ‹_›
         have f1 := @ord_eq ⟨k, u, w⟩ ⟨k', u', w'⟩ _ rfl
         have f2 := cmp_anti ⟨k, u, w⟩ ⟨k', u', w'⟩
         have f3 := cmp_rng ⟨k, u, w⟩ ⟨k', u', w'⟩
         have f4 := @cmp_trans ⟨k, u, w⟩ ⟨k', u', w'⟩ ⟨k2, u2, w2⟩ w1 w2' w3
         have f5 := @cmp_trans ⟨k2, u2, w2⟩ ⟨k', u', w'⟩ ⟨k, u, w⟩ w3 w2' w1
         have f6 := cmp_anti ⟨k, u, w⟩ ⟨k2, u2, w2⟩
         have f7 := cmp_anti ⟨k', u', w'⟩ ⟨k2, u2, w2⟩
         clear i1 i2 i3 i4 p1 p2 p3 p4 p5 p6 q1 q2 q3 q4 q5 q6
         simp only at f1
         generalize ordI (u * w') (u' * w) = o at *
         generalize cmpIt ⟨k, u, w⟩ ⟨k', u', w'⟩ = xy at *
         generalize cmpIt ⟨k', u', w'⟩ ⟨k, u, w⟩ = yx at *
         generalize cmpIt ⟨k', u', w'⟩ ⟨k2, u2, w2⟩ = yz at *
         generalize cmpIt ⟨k2, u2, w2⟩ ⟨k', u', w'⟩ = zy at *
         generalize cmpIt ⟨k, u, w⟩ ⟨k2, u2, w2⟩ = xz at *
         generalize cmpIt ⟨k2, u2, w2⟩ ⟨k, u, w⟩ = zx at *
         have f8 : wrap64 (0 - yx) = 0 - yx := by unfold wrap64; omega
         generalize wrap64 (0 - yx) = ny at *
         simp only [ieq, seq, beq_iff_eq, beq_eq_false_iff_ne, ne_eq, decide_eq_decide, decide_eq_true_eq, decide_eq_false_iff_not] at *
         by_cases hk : k = k' <;> simp only [hk, true_iff, false_iff, iff_true, iff_false, and_true, and_false, not_true, not_false_eq_true] at * <;> omega)
  · exact h.elim
end Go.Proofs.YtjipfimhmfhmhaaDoor.Z
