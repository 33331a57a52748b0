/- Several texts of one claim in one file: YtmndbhgbngkakaaDoorU3, YtmndbhgbngkakaaDoorU4. No condition. -/
import Derived.Test.YtmndbhgbngkakaaDoorUX
import Derived.Test.YtmndbhgbngkakaaDoorUA
section
/- The document's numbers of 128 bits over plain data. No condition. -/
namespace Go.Proofs.YtmndbhgbngkakaaDoor.Z
open Go Go.RowKit Go.Proofs.YtmndbhgbngkakaaDoor.E Go.Proofs.YtmndbhgbngkakaaDoor.G Go.Proofs.YtmndbhgbngkakaaDoor.K Go.Proofs.YtmndbhgbngkakaaDoor.F Go.Proofs.YtmndbhgbngkakaaDoor.M Go.Proofs.YtmndbhgbngkakaaDoor.R
open Go.Proofs.YtmndbhgbngkakaaDoorW.PrintWords hiding rd
set_option linter.all false

set_option maxRecDepth 100000
set_option maxHeartbeats 4000000
def digitsS (A : Lz) (args : List FV) (q : FV → FV → Prop) : Prop :=
  match args with
  | [.agg [.int .u64 h, .int .u64 l]] => q (.vec (.int .u64) (A _ fun _ => ii .u64 (digs8 h l))) .dead
  | _ => False
theorem digits_ok : SpecOk EV 65 ⟨false, digitsS⟩ := by
  refine spec_go (.nil _) (fn := Tryd.f65) rfl rfl Tryd.func65 rfl false [] _ ?_
  intro A hA args q h
  unfold digitsS at h
  split at h
  · rename_i hh l
    have e1 : (A Int fun _ => IntKind.i64.wrap (0 + 1)) = 1 := (au hA _).trans (by decide)
    have e2 : (A Int fun _ => IntKind.i64.wrap (1 + 1)) = 2 := (au hA _).trans (by decide)
    have e3 : (A Int fun _ => IntKind.i64.wrap (2 + 1)) = 3 := (au hA _).trans (by decide)
    have e4 : (A Int fun _ => IntKind.i64.wrap (3 + 1)) = 4 := (au hA _).trans (by decide)
    refine ⟨Nat.le_of_ble_eq_true rfl, ?_⟩
    cbv
    refine loop_step hA ?_
    cbv
    (split <;> rename_i hz <;> (try rw [au hA] at hz) <;> first | (exfalso; revert hz; decide) | cbv)
    repeat (refine And.intro (by subst hA; first | decide | rfl | (simp [std, setN]; done) | (simp only [std]; decide)) ?_)
    cbv
    rw [e1]
    refine loop_step hA ?_
    cbv
    (split <;> rename_i hz <;> (try rw [au hA] at hz) <;> first | (exfalso; revert hz; decide) | cbv)
    repeat (refine And.intro (by subst hA; first | decide | rfl | (simp [std, setN]; done) | (simp only [std]; decide)) ?_)
    cbv
    rw [e2]
    refine loop_step hA ?_
    cbv
    (split <;> rename_i hz <;> (try rw [au hA] at hz) <;> first | (exfalso; revert hz; decide) | cbv)
    repeat (refine And.intro (by subst hA; first | decide | rfl | (simp [std, setN]; done) | (simp only [std]; decide)) ?_)
    cbv
    rw [e3]
    refine loop_step hA ?_
    cbv
    (split <;> rename_i hz <;> (try rw [au hA] at hz) <;> first | (exfalso; revert hz; decide) | cbv)
    repeat (refine And.intro (by subst hA; first | decide | rfl | (simp [std, setN]; done) | (simp only [std]; decide)) ?_)
    cbv
    rw [e4]
    refine loop_step hA ?_
    cbv
    (split <;> rename_i hz <;> (try rw [au hA] at hz) <;> first | (exfalso; revert hz; decide) | cbv)
    repeat (refine And.intro (by subst hA; first | decide | rfl | (simp [std, setN]; done) | (simp only [std]; decide)) ?_)
    subst hA
    refine fin1 h ?_
    rfl
  · exact h.elim
def numberS (A : Lz) (args : List FV) (q : FV → FV → Prop) : Prop :=
  match args with
  | [.vec (.int .u64) l] => (A _ fun _ => l.length = 8) ∧ q (.agg [.int .u64 (A _ fun _ => num4 (toIs l) 4), .int .u64 (A _ fun _ => num4 (toIs l) 0)]) .dead
  | _ => False
theorem number_ok : SpecOk EV 78 ⟨false, numberS⟩ := by
  refine spec_go (.nil _) (fn := Tryd.f78) rfl rfl Tryd.func78 rfl false [] _ ?_
  intro A hA args q h
  unfold numberS at h
  split at h
  · rename_i l
    obtain ⟨hl, h⟩ := h
    have hl : l.length = 8 := hl
    have e1 : (A Int fun _ => IntKind.i64.wrap (3 - 1)) = 2 := (au hA _).trans (by decide)
    have e2 : (A Int fun _ => IntKind.i64.wrap (2 - 1)) = 1 := (au hA _).trans (by decide)
    have e3 : (A Int fun _ => IntKind.i64.wrap (1 - 1)) = 0 := (au hA _).trans (by decide)
    have e4 : (A Int fun _ => IntKind.i64.wrap (0 - 1)) = -1 := (au hA _).trans (by decide)
    refine ⟨Nat.le_of_ble_eq_true rfl, ?_⟩
    cbv
    refine loop_step hA ?_
    cbv
    (split <;> rename_i hz <;> (try rw [au hA] at hz) <;> first | (exfalso; revert hz; decide) | cbv)
    repeat (refine And.intro (by subst hA; first | decide | rfl | (simp [std, setN]; done) | (simp only [std]; decide) | (simp [std]; omega)) ?_)
    cbv
    rw [e1]
    refine loop_step hA ?_
    cbv
    (split <;> rename_i hz <;> (try rw [au hA] at hz) <;> first | (exfalso; revert hz; decide) | cbv)
    repeat (refine And.intro (by subst hA; first | decide | rfl | (simp [std, setN]; done) | (simp only [std]; decide) | (simp [std]; omega)) ?_)
    cbv
    rw [e2]
    refine loop_step hA ?_
    cbv
    (split <;> rename_i hz <;> (try rw [au hA] at hz) <;> first | (exfalso; revert hz; decide) | cbv)
    repeat (refine And.intro (by subst hA; first | decide | rfl | (simp [std, setN]; done) | (simp only [std]; decide) | (simp [std]; omega)) ?_)
    cbv
    rw [e3]
    refine loop_step hA ?_
    cbv
    (split <;> rename_i hz <;> (try rw [au hA] at hz) <;> first | (exfalso; revert hz; decide) | cbv)
    repeat (refine And.intro (by subst hA; first | decide | rfl | (simp [std, setN]; done) | (simp only [std]; decide) | (simp [std]; omega)) ?_)
    cbv
    rw [e4]
    refine loop_step hA ?_
    cbv
    (split <;> rename_i hz <;> (try rw [au hA] at hz) <;> first | (exfalso; revert hz; decide) | cbv)
    subst hA
    refine fin1 h ?_
    simp only [num4, ← nth_toI]
    rfl
  · exact h.elim
def rcmp1S (A : Lz) (args : List FV) (q : FV → FV → Prop) : Prop :=
  match args with
  | [.agg [.int .u64 h, .int .u64 l], .agg [.int .u64 h', .int .u64 l']] => q (.int .i64 (A _ fun _ => cmpD (digs8 h l) (digs8 h' l') 8)) .dead
  | _ => False
theorem rcmp1_ok : SpecOk EV 48 ⟨false, rcmp1S⟩ := by
  refine spec_go (.cons (f := 65) digits_ok (.nil _)) (fn := Tryd.f48) rfl rfl Tryd.func48 rfl false [] _ ?_
  intro A hA args q h
  unfold rcmp1S at h
  split at h
  · rename_i h1 l1 h2 l2
    have a1 : (toIs (ii .u64 (digs8 h1 l1))) = digs8 h1 l1 := toIs_ii _ _
    have a2 : (toIs (ii .u64 (digs8 h2 l2))) = digs8 h2 l2 := toIs_ii _ _
    refine ⟨Nat.le_of_ble_eq_true rfl, ?_⟩
    cbv
    repeat (refine And.intro (by subst hA; first | decide | rfl | (simp [std, digs8]; done)) ?_)
    refine loop_intro hA [(5, .vec (.int .u64)), (6, .vec (.int .u64)), (7, .keep)] (fun n s => ∃ x y i, s = st [(5, .ptr 5 0 0), (6, .ptr 6 0 0), (7, .int .i64 i)] [(5, ⟨0, true, .arr (.int .u64) true x⟩), (6, ⟨0, true, .arr (.int .u64) true y⟩)] ∧ x = ii .u64 (digs8 h1 l1) ∧ y = ii .u64 (digs8 h2 l2) ∧ i = (n : Int) - 1 ∧ n ≤ 8 ∧ cmpD (digs8 h1 l1) (digs8 h2 l2) 8 = cmpD (digs8 h1 l1) (digs8 h2 l2) n) 8 ?_ ?_
    · cbv
      (iterate 3 apply Exists.intro); refine ⟨?_, ?_⟩; cbv
      exact ⟨au hA _, au hA _, rfl, Nat.le_refl _, rfl⟩
    · rintro n s ⟨x, y, i, rfl, hx, hy, hi, hn, hc⟩
      have lx : x.length = 8 := by rw [hx]; rfl
      have ly : y.length = 8 := by rw [hy]; rfl
      have tx : toIs x = digs8 h1 l1 := by rw [hx]; exact a1
      have ty : toIs y = digs8 h2 l2 := by rw [hy]; exact a2
      cbv
      rcases n with _ | n
      · have hi : i = -1 := by simp only [nc] at hi; omega
        repeat' (first | (refine And.intro (by (try simp only [List.length_replicate, Int.zero_tmod, toIs_ii, ii_len, Int.zero_tdiv, w0, hA, nE, shl, shr, std, zE32, zE64, nc, nth_rd', i64w, u32_wrap, p32, p31, p63, w6432, toIs_len, set_toIs, repl_toIs, app_toIs, tos1, tos0, p1, take_toIs, drop_toIs, ieq_iff, ieq_iff', ilt_iff, ilt_iff', ile_iff, ile_iff', gt_iff_lt, ge_iff_le, Bool.not_eq_true', Bool.not_eq_false', List.drop_zero, Nat.sub_zero]); first | done | exact ix ‹_› ‹_› | exact ix (Int.le_refl 0) ‹_› | decide | exact ap4 ‹_› | exact ap8 ‹_› | exact mk4 ‹_› ‹_› | exact mk8 ‹_› ‹_› | exact ix' ‹_› ‹_› | assumption | omega) ?_; cbv) | (split <;> rename_i hz <;> (try simp only [List.length_replicate, Int.zero_tmod, toIs_ii, ii_len, Int.zero_tdiv, w0, hA, nE, shl, shr, std, zE32, zE64, nc, nth_rd', i64w, u32_wrap, p32, p31, p63, w6432, toIs_len, set_toIs, repl_toIs, app_toIs, tos1, tos0, p1, take_toIs, drop_toIs, ieq_iff, ieq_iff', ilt_iff, ilt_iff', ile_iff, ile_iff', gt_iff_lt, ge_iff_le, Bool.not_eq_true', Bool.not_eq_false', List.drop_zero, Nat.sub_zero] at hz) <;> first | contradiction | (exfalso; omega) | (exfalso; have hz2 := hz.symm.trans ‹_ = true›; cases hz2; done) | (exfalso; have hz2 := hz.symm.trans ‹_ = false›; cases hz2; done) | cbv))
        subst hA
        exact fin_int h hc.symm
      · have hi : i = (n : Int) := by simp only [nc] at hi; omega
        have hk : ∀ l : List Int, YtmndbhgbngkakaaDoorW.PrintWords.rd l i = l.getD n 0 := fun l => by rw [hi]; exact rd_nat l n
        replace hc := hc.trans (cmpD_succ _ _ n)
        generalize cmpD (digs8 h1 l1) (digs8 h2 l2) 8 = c0 at h hc
        have hb : 0 ≤ i ∧ i.toNat < 8 := by omega
        repeat' (first | (refine And.intro (by (try simp only [List.length_replicate, Int.zero_tmod, toIs_ii, ii_len, Int.zero_tdiv, w0, hA, nE, shl, shr, std, zE32, zE64, nc, nth_rd', i64w, u32_wrap, p32, p31, p63, w6432, toIs_len, set_toIs, repl_toIs, app_toIs, tos1, tos0, p1, take_toIs, drop_toIs, ieq_iff, ieq_iff', ilt_iff, ilt_iff', ile_iff, ile_iff', gt_iff_lt, ge_iff_le, Bool.not_eq_true', Bool.not_eq_false', List.drop_zero, Nat.sub_zero]); first | done | exact ix ‹_› ‹_› | exact ix (Int.le_refl 0) ‹_› | decide | exact ap4 ‹_› | exact ap8 ‹_› | exact mk4 ‹_› ‹_› | exact mk8 ‹_› ‹_› | exact ix' ‹_› ‹_› | assumption | omega) ?_; cbv) | (split <;> rename_i hz <;> (try simp only [List.length_replicate, Int.zero_tmod, toIs_ii, ii_len, Int.zero_tdiv, w0, hA, nE, shl, shr, std, zE32, zE64, nc, nth_rd', i64w, u32_wrap, p32, p31, p63, w6432, toIs_len, set_toIs, repl_toIs, app_toIs, tos1, tos0, p1, take_toIs, drop_toIs, ieq_iff, ieq_iff', ilt_iff, ilt_iff', ile_iff, ile_iff', gt_iff_lt, ge_iff_le, Bool.not_eq_true', Bool.not_eq_false', List.drop_zero, Nat.sub_zero] at hz) <;> first | contradiction | (exfalso; omega) | (exfalso; have hz2 := hz.symm.trans ‹_ = true›; cases hz2; done) | (exfalso; have hz2 := hz.symm.trans ‹_ = false›; cases hz2; done) | cbv))
        all_goals (rw [hk, hk, tx, ty] at *)
        · rw [if_pos hz] at hc
          subst hA
          exact fin_int h hc.symm
        · rw [if_neg (by assumption), if_pos hz] at hc
          subst hA
          exact fin_int h hc.symm
        · rw [if_neg (by assumption), if_neg hz] at hc
          refine ⟨n, Nat.lt_succ_self n, ?_⟩
          cbv
          (iterate 3 apply Exists.intro); refine ⟨?_, ?_⟩; cbv
          refine ⟨hx, hy, ?_, by omega, hc⟩
          rw [au hA, hi, i64w]
          unfold wrap64
          omega
  · exact h.elim
end Go.Proofs.YtmndbhgbngkakaaDoor.Z
end
section
/- The document's products of 128 bits over plain data. No condition. -/
namespace Go.Proofs.YtmndbhgbngkakaaDoor.Z
open Go Go.RowKit Go.Proofs.YtmndbhgbngkakaaDoor.E Go.Proofs.YtmndbhgbngkakaaDoor.G Go.Proofs.YtmndbhgbngkakaaDoor.K Go.Proofs.YtmndbhgbngkakaaDoor.F Go.Proofs.YtmndbhgbngkakaaDoor.M Go.Proofs.YtmndbhgbngkakaaDoor.R
open Go.Proofs.YtmndbhgbngkakaaDoorW.PrintWords hiding rd
set_option linter.all false

set_option maxRecDepth 100000
set_option maxHeartbeats 4000000
def prod (h l h' l' : Int) : Int := (h * 18446744073709551616 + l) * (h' * 18446744073709551616 + l')
def rmul1S (A : Lz) (args : List FV) (q : FV → FV → Prop) : Prop :=
  match args with
  | [.agg [.int .u64 h, .int .u64 l], .agg [.int .u64 h', .int .u64 l']] => (A _ fun _ => u64b h ∧ u64b l ∧ u64b h' ∧ u64b l') ∧ q (.tup [.agg [.int .u64 (A _ fun _ => mhi (prod h l h' l')), .int .u64 (A _ fun _ => mlo (prod h l h' l'))], .bool (A _ fun _ => decide (prod h l h' l' < 340282366920938463463374607431768211456))]) .dead
  | _ => False
theorem wrap64_s {n : Nat} (h : n < 1000) : wrap64 ((n : Int) + 1) = ((n + 1 : Nat) : Int) := by unfold wrap64; omega
theorem rmul1_ok : SpecOk EV 66 ⟨false, rmul1S⟩ := by
  refine spec_go (.cons (f := 65) digits_ok (.cons (f := 78) number_ok (.nil _))) (fn := Tryd.f66) rfl rfl Tryd.func66 rfl false [] _ ?_
  intro A hA args q h
  unfold rmul1S at h
  split at h
  · rename_i h1 l1 h2 l2
    obtain ⟨⟨b1, b2, b3, b4⟩, h⟩ := h
    have dX := digs_D b1 b2
    have dY := digs_D b3 b4
    have lX : (digs8 h1 l1).length = 8 := rfl
    have lY : (digs8 h2 l2).length = 8 := rfl
    have vX := digs_vb b1 b2
    have vY := digs_vb b3 b4
    refine ⟨Nat.le_of_ble_eq_true rfl, ?_⟩
    cbv
    generalize hX : digs8 h1 l1 = X at *
    generalize hY : digs8 h2 l2 = Y at *
    repeat (refine And.intro (by subst hA; first | decide | rfl | (simp [std, lX, lY]; done)) ?_)
    refine loop_intro hA [(4, .box), (6, .vec (.int .u64)), (7, .vec (.int .u64)), (8, .vec (.int .u64)), (9, .keep)] (fun n s => ∃ x y o z, s = st [(4, .ptr 4 0 0), (6, .ptr 6 0 0), (7, .ptr 7 0 0), (8, .ptr 8 0 0), (9, .int .i64 z)]
        [(4, ⟨0, true, .box [.int .u64 0, .int .u64 0]⟩), (6, ⟨0, true, .arr (.int .u64) true x⟩), (7, ⟨0, true, .arr (.int .u64) true y⟩), (8, ⟨0, true, .arr (.int .u64) true o⟩)] ∧
        x = ii .u64 X ∧ y = ii .u64 Y ∧ ∃ (O : List Int) (i : Nat), o = ii .u64 O ∧ z = i ∧ n + i = 8 ∧ MulI X Y O i) 8 ?_ ?_
    · cbv
      (iterate 4 apply Exists.intro); refine ⟨?_, ?_⟩; cbv
      exact ⟨au hA _, au hA _, List.replicate 16 0, 0, au hA _, rfl, rfl, MulI.first X Y⟩
    · rintro n s ⟨x, y, o, z, rfl, hx, hy, O, i, ho, hz0, hn, hI⟩
      have lx : x.length = 8 := by rw [hx, ii_len, lX]
      have ly : y.length = 8 := by rw [hy, ii_len, lY]
      have lo : o.length = 16 := by rw [ho, ii_len, hI.len]
      cbv
      repeat' (first | (refine And.intro (by (try simp only [List.length_replicate, Int.zero_tmod, toIs_ii, ii_len, Int.zero_tdiv, w0, hA, nE, shl, shr, std, zE32, zE64, nc, nth_rd', i64w, u32_wrap, p32, p31, p63, w6432, toIs_len, set_toIs, repl_toIs, app_toIs, tos1, tos0, p1, take_toIs, drop_toIs, ieq_iff, ieq_iff', ilt_iff, ilt_iff', ile_iff, ile_iff', gt_iff_lt, ge_iff_le, Bool.not_eq_true', Bool.not_eq_false', List.drop_zero, Nat.sub_zero]); first | done | exact ix ‹_› ‹_› | exact ix (Int.le_refl 0) ‹_› | decide | exact ap4 ‹_› | exact ap8 ‹_› | exact mk4 ‹_› ‹_› | exact mk8 ‹_› ‹_› | exact ix' ‹_› ‹_› | assumption | omega) ?_; cbv) | (split <;> rename_i hz <;> (try simp only [List.length_replicate, Int.zero_tmod, toIs_ii, ii_len, Int.zero_tdiv, w0, hA, nE, shl, shr, std, zE32, zE64, nc, nth_rd', i64w, u32_wrap, p32, p31, p63, w6432, toIs_len, set_toIs, repl_toIs, app_toIs, tos1, tos0, p1, take_toIs, drop_toIs, ieq_iff, ieq_iff', ilt_iff, ilt_iff', ile_iff, ile_iff', gt_iff_lt, ge_iff_le, Bool.not_eq_true', Bool.not_eq_false', List.drop_zero, Nat.sub_zero] at hz) <;> first | contradiction | (exfalso; omega) | (exfalso; have hz2 := hz.symm.trans ‹_ = true›; cases hz2; done) | (exfalso; have hz2 := hz.symm.trans ‹_ = false›; cases hz2; done) | cbv))
      · refine loop_intro hA [(4, .box), (6, .vec (.int .u64)), (7, .vec (.int .u64)), (8, .vec (.int .u64)), (9, .keep), (10, .keep), (11, .keep)] (fun m s => ∃ o c w, s = st [(4, .ptr 4 0 0), (6, .ptr 6 0 0), (7, .ptr 7 0 0), (8, .ptr 8 0 0), (9, .int .i64 z), (10, .int .u64 c), (11, .int .i64 w)]
          [(4, ⟨0, true, .box [.int .u64 0, .int .u64 0]⟩), (6, ⟨0, true, .arr (.int .u64) true x⟩), (7, ⟨0, true, .arr (.int .u64) true y⟩), (8, ⟨0, true, .arr (.int .u64) true o⟩)] ∧
          ∃ (O : List Int) (k : Nat), o = ii .u64 O ∧ w = k ∧ m + k = 8 ∧ MulJ X Y O i k c) 8 ?_ ?_
        · cbv
          (iterate 3 apply Exists.intro); refine ⟨?_, ?_⟩; cbv
          exact ⟨O, 0, ho, rfl, rfl, hI.row⟩
        · rintro m s ⟨o, c, w, rfl, O, k, ho, hw0, hm, hJ⟩
          have lo : o.length = 16 := by rw [ho, ii_len, hJ.len]
          have hi8 : i < 8 := by simp only [nc] at *; omega
          have e1 : k ≤ 8 := by omega
          have e2 : wrap64 (z + w) = z + w := by simp only [nc] at *; unfold wrap64; omega
          have e3 : wrap64 (z + 8) = z + 8 := by simp only [nc] at *; unfold wrap64; omega
          have hz' : 0 ≤ z ∧ z < 8 := by simp only [nc] at *; omega
          have hw' : 0 ≤ w ∧ w ≤ 8 := by simp only [nc] at *; omega
          have hb : 0 ≤ wrap64 (z + w) ∧ (w < 8 → (wrap64 (z + w)).toNat < 16) := by rw [e2]; omega
          have hb3 : 0 ≤ wrap64 (z + 8) ∧ (wrap64 (z + 8)).toNat < 16 := by rw [e3]; omega
          cbv
          repeat' (first | (refine And.intro (by (try simp only [List.length_replicate, Int.zero_tmod, toIs_ii, ii_len, Int.zero_tdiv, w0, hA, nE, shl, shr, std, zE32, zE64, nc, nth_rd', i64w, u32_wrap, p32, p31, p63, w6432, toIs_len, set_toIs, repl_toIs, app_toIs, tos1, tos0, p1, take_toIs, drop_toIs, ieq_iff, ieq_iff', ilt_iff, ilt_iff', ile_iff, ile_iff', gt_iff_lt, ge_iff_le, Bool.not_eq_true', Bool.not_eq_false', List.drop_zero, Nat.sub_zero]); first | done | exact ix ‹_› ‹_› | exact ix (Int.le_refl 0) ‹_› | decide | exact ap4 ‹_› | exact ap8 ‹_› | exact mk4 ‹_› ‹_› | exact mk8 ‹_› ‹_› | exact ix' ‹_› ‹_› | assumption | omega) ?_; cbv) | (split <;> rename_i hz <;> (try simp only [List.length_replicate, Int.zero_tmod, toIs_ii, ii_len, Int.zero_tdiv, w0, hA, nE, shl, shr, std, zE32, zE64, nc, nth_rd', i64w, u32_wrap, p32, p31, p63, w6432, toIs_len, set_toIs, repl_toIs, app_toIs, tos1, tos0, p1, take_toIs, drop_toIs, ieq_iff, ieq_iff', ilt_iff, ilt_iff', ile_iff, ile_iff', gt_iff_lt, ge_iff_le, Bool.not_eq_true', Bool.not_eq_false', List.drop_zero, Nat.sub_zero] at hz) <;> first | contradiction | (exfalso; omega) | (exfalso; have hz2 := hz.symm.trans ‹_ = true›; cases hz2; done) | (exfalso; have hz2 := hz.symm.trans ‹_ = false›; cases hz2; done) | cbv))
          · have hk8 : k < 8 := by simp only [nc] at *; omega
            have hn2 := hJ.n dX dY
            have g1 := D.getD (by decide) hJ.d (i + k)
            have g2 := D.getD (by decide) dX i
            have g3 := D.getD (by decide) dY k
            have p0 := Int.mul_nonneg g2.1 g3.1
            have c0 := hJ.c0
            have c1 := hJ.c1
            have ei : (IntKind.i64.wrap (z + w)).toNat = i + k := by rw [i64w, e2, hz0, hw0]; simp only [nc]; omega
            have eo : (G.nth o (i + k)).toI = O.getD (i + k) 0 := by rw [nth_toI, ho, toIs_ii]
            have ex : (G.nth x z.toNat).toI = X.getD i 0 := by rw [nth_toI, hx, toIs_ii, hz0]; rfl
            have ey : (G.nth y w.toNat).toI = Y.getD k 0 := by rw [nth_toI, hy, toIs_ii, hw0]; rfl
            have hV : IntKind.u64.wrap (IntKind.u64.wrap ((G.nth o (IntKind.i64.wrap (z + w)).toNat).toI + IntKind.u64.wrap ((G.nth x z.toNat).toI * (G.nth y w.toNat).toI)) + c) = O.getD (i + k) 0 + X.getD i 0 * Y.getD k 0 + c := by
              rw [ei, eo, ex, ey, u64_in (n := X.getD i 0 * Y.getD k 0) (by omega) (by omega), u64_in (n := O.getD (i + k) 0 + X.getD i 0 * Y.getD k 0) (by omega) (by omega), u64_in (by omega) (by omega)]
            refine ⟨m - 1, by omega, ?_⟩
            cbv
            (iterate 3 apply Exists.intro); refine ⟨?_, ?_⟩; cbv
            subst hA
            refine ⟨O.set (i + k) ((O.getD (i + k) 0 + X.getD i 0 * Y.getD k 0 + c) % 65536), k + 1, ?_, ?_, by omega, ?_⟩
            · show setN o (IntKind.i64.wrap (z + w)).toNat (.int .u64 (Int.tmod (IntKind.u64.wrap (IntKind.u64.wrap ((G.nth o (IntKind.i64.wrap (z + w)).toNat).toI + IntKind.u64.wrap ((G.nth x z.toNat).toI * (G.nth y w.toNat).toI)) + c)) 65536)) = _
              rw [hV, ei, ho, set_ii, Int.tmod_eq_emod_of_nonneg hn2.1]
            · rw [hw0]; exact (i64w _).trans (wrap64_s (n := k) (by omega))
            · show MulJ X Y _ i (k + 1) (IntKind.u64.wrap (Int.tdiv (IntKind.u64.wrap (IntKind.u64.wrap ((G.nth o (IntKind.i64.wrap (z + w)).toNat).toI + IntKind.u64.wrap ((G.nth x z.toNat).toI * (G.nth y w.toNat).toI)) + c)) 65536))
              rw [hV, Int.tdiv_eq_ediv_of_nonneg hn2.1, u64_in (by omega) (by omega)]
              exact hJ.next dX dY hi8 hk8 (by omega) rfl
          · have hk8 : k = 8 := by simp only [nc] at *; omega
            subst hk8
            refine ⟨n - 1, by omega, ?_⟩
            cbv
            (iterate 4 apply Exists.intro); refine ⟨?_, ?_⟩; cbv
            subst hA
            refine ⟨hx, hy, O.set (i + 8) c, i + 1, ?_, ?_, by omega, hJ.last hi8 (by omega) lY⟩
            · show setN o (IntKind.i64.wrap (z + 8)).toNat (.int .u64 c) = _
              rw [i64w, e3, hz0, ho, set_ii]
              congr 1
            · rw [hz0]; exact (i64w _).trans (wrap64_s (n := i) (by omega))
      · have hi8 : i = 8 := by simp only [nc] at *; omega
        subst hi8
        have hv : prod h1 l1 h2 l2 = vb 65536 O := by rw [hI.low lX, vX, vY]; rfl
        refine loop_intro hA [(4, .box), (8, .vec (.int .u64)), (13, .vec (.int .u64)), (14, .keep)] (fun m s => ∃ p w, s = st [(4, .ptr 4 0 0), (8, .ptr 8 0 0), (13, .ptr 13 0 0), (14, .int .i64 w)]
          [(4, ⟨0, true, .box [.int .u64 0, .int .u64 0]⟩), (8, ⟨0, true, .arr (.int .u64) true o⟩), (13, ⟨0, true, .arr (.int .u64) true p⟩)] ∧
          ∃ (k : Nat), p = ii .u64 (O.take k ++ List.replicate (8 - k) 0) ∧ w = k ∧ m + k = 8 ∧ ∀ j, j < k → O.getD (8 + j) 0 = 0) 8 ?_ ?_
        · cbv
          (iterate 2 apply Exists.intro); refine ⟨?_, ?_⟩; cbv
          exact ⟨0, au hA _, rfl, rfl, fun j hj => by omega⟩
        · rintro m s ⟨p, w, rfl, k, hp, hw0, hm, hk⟩
          have lo : o.length = 16 := by rw [ho, ii_len, hI.len]
          have lp : p.length = 8 := by rw [hp, ii_len, List.length_append, List.length_take, List.length_replicate, hI.len]; omega
          have hw' : 0 ≤ w ∧ w ≤ 8 := by simp only [nc] at *; omega
          have e2 : wrap64 (8 + w) = 8 + w := by simp only [nc] at *; unfold wrap64; omega
          have hb : 0 ≤ wrap64 (8 + w) ∧ (w < 8 → (wrap64 (8 + w)).toNat < 16) := by rw [e2]; omega
          have e3 : YtmndbhgbngkakaaDoorW.PrintWords.rd (toIs o) (wrap64 (8 + w)) = O.getD (8 + k) 0 := by rw [e2, ho, toIs_ii, hw0]; exact rd_nat O (8 + k)
          cbv
          repeat' (first | (refine And.intro (by (try simp only [List.length_replicate, Int.zero_tmod, toIs_ii, ii_len, Int.zero_tdiv, w0, hA, nE, shl, shr, std, zE32, zE64, nc, nth_rd', i64w, u32_wrap, p32, p31, p63, w6432, toIs_len, set_toIs, repl_toIs, app_toIs, tos1, tos0, p1, take_toIs, drop_toIs, ieq_iff, ieq_iff', ilt_iff, ilt_iff', ile_iff, ile_iff', gt_iff_lt, ge_iff_le, Bool.not_eq_true', Bool.not_eq_false', List.drop_zero, Nat.sub_zero]); first | done | exact ix ‹_› ‹_› | exact ix (Int.le_refl 0) ‹_› | decide | exact ap4 ‹_› | exact ap8 ‹_› | exact mk4 ‹_› ‹_› | exact mk8 ‹_› ‹_› | exact ix' ‹_› ‹_› | assumption | omega) ?_; cbv) | (split <;> rename_i hz <;> (try simp only [List.length_replicate, Int.zero_tmod, toIs_ii, ii_len, Int.zero_tdiv, w0, hA, nE, shl, shr, std, zE32, zE64, nc, nth_rd', i64w, u32_wrap, p32, p31, p63, w6432, toIs_len, set_toIs, repl_toIs, app_toIs, tos1, tos0, p1, take_toIs, drop_toIs, ieq_iff, ieq_iff', ilt_iff, ilt_iff', ile_iff, ile_iff', gt_iff_lt, ge_iff_le, Bool.not_eq_true', Bool.not_eq_false', List.drop_zero, Nat.sub_zero] at hz) <;> first | contradiction | (exfalso; omega) | (exfalso; have hz2 := hz.symm.trans ‹_ = true›; cases hz2; done) | (exfalso; have hz2 := hz.symm.trans ‹_ = false›; cases hz2; done) | cbv))
          · rw [e3] at hz
            have hp := top_pos hI.d hI.len (j := k) (by simp only [nc] at *; omega) hz
            subst hA
            refine fin1 h ?_
            rw [hv]
            have : ¬ vb 65536 O < 340282366920938463463374607431768211456 := by omega
            simp only [std, mhi, mlo, this, if_false, decide_false, packF]
          · rw [e3] at hz
            have hk8 : k < 8 := by simp only [nc] at *; omega
            have g1 := D.getD (by decide) hI.d (8 + k)
            refine ⟨m - 1, by omega, ?_⟩
            cbv
            (iterate 2 apply Exists.intro); refine ⟨?_, ?_⟩; cbv
            subst hA
            refine ⟨k + 1, ?_, ?_, by omega, fun j hj => ?_⟩
            · show setN p w.toNat (.int .u64 (G.nth o w.toNat).toI) = _
              have ew : w.toNat = k := by rw [hw0]; rfl
              rw [nth_toI, ho, toIs_ii, ew, hp, set_ii]
              congr 1
              have lk : (O.take k).length = k := by rw [List.length_take, hI.len]; omega
              have el : O.getD k 0 = O[k]'(by rw [hI.len]; omega) := by rw [List.getD_eq_getElem?_getD, List.getElem?_eq_getElem (by rw [hI.len]; omega)]; rfl
              rw [List.set_append_right _ _ (by omega), lk, Nat.sub_self, show 8 - k = (8 - (k + 1)) + 1 by omega, List.replicate_succ, List.set_cons_zero, List.take_succ_eq_append_getElem (by rw [hI.len]; omega), el, List.append_assoc]
              rfl
            · rw [hw0]; exact (i64w _).trans (wrap64_s (n := k) (by omega))
            · by_cases e : j = k
              · subst e; omega
              · exact hk j (by omega)
          · have hk8 : k = 8 := by simp only [nc] at *; omega
            subst hk8
            obtain ⟨t1, t2⟩ := top_zero hI.d hI.len hk
            have ep : toIs p = O.take 8 := by rw [hp, toIs_ii]; simp
            have l8 : (O.take 8).length = 8 := by rw [List.length_take, hI.len]; rfl
            obtain ⟨n1, n2, n3⟩ := num4_vb (hI.d.take 8) l8
            subst hA
            refine fin1 h ?_
            obtain ⟨n10, n11⟩ := n1
            obtain ⟨n20, n21⟩ := n2
            rw [t1] at n3
            have q1 : num4 (O.take 8) 4 = vb 65536 O / 18446744073709551616 := by omega
            have q2 : num4 (O.take 8) 0 = vb 65536 O % 18446744073709551616 := by omega
            rw [hv]
            simp only [std, mhi, mlo, t2, if_true, decide_true, packF, ep, q1, q2]
  · exact h.elim
/-- The product of two numbers of 64 bits. -/
def productS (A : Lz) (args : List FV) (q : FV → FV → Prop) : Prop :=
  match args with
  | [.int .u64 a, .int .u64 b] => (A _ fun _ => u64b a ∧ u64b b) ∧ q (.agg [.int .u64 (A _ fun _ => a * b / 18446744073709551616), .int .u64 (A _ fun _ => a * b % 18446744073709551616)]) .dead
  | _ => False
theorem u64b0 : u64b 0 := by unfold u64b; decide
theorem prod_le {a b : Int} (ha : u64b a) (hb : u64b b) : 0 ≤ a * b ∧ a * b < 340282366920938463463374607431768211456 := by
  obtain ⟨a0, a1⟩ := ha
  obtain ⟨b0, b1⟩ := hb
  refine ⟨Int.mul_nonneg a0 b0, ?_⟩
  have : a * b ≤ 18446744073709551615 * 18446744073709551615 := Int.mul_le_mul (by omega) (by omega) b0 (by decide)
  omega
theorem product_ok : SpecOk EV 49 ⟨false, productS⟩ := by
  refine spec_go (.cons (f := 66) rmul1_ok (.nil _)) (fn := Tryd.f49) rfl rfl Tryd.func49 rfl false [] _ ?_
  intro A hA args q h
  unfold productS at h
  split at h
  · rename_i a b
    obtain ⟨⟨ha, hb⟩, h⟩ := h
    refine ⟨Nat.le_of_ble_eq_true rfl, ?_⟩
    cbv
    refine ⟨by rw [au hA]; exact ⟨u64b0, ha, u64b0, hb⟩, ?_⟩
    cbv
    have e : prod 0 a 0 b = a * b := by simp [prod]
    have hp := (prod_le ha hb).2
    subst hA
    refine fin1 h ?_
    simp only [std, packF, e, mhi, mlo, hp, if_true]
  · exact h.elim
end Go.Proofs.YtmndbhgbngkakaaDoor.Z
end
