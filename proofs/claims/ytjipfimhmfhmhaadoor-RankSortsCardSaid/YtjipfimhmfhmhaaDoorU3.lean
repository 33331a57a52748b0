/- The document's numbers of 128 bits over plain data. No condition. -/
import Derived.Test.YtjipfimhmfhmhaaDoorU2
import Derived.Test.YtjipfimhmfhmhaaDoorUA
namespace Go.Proofs.YtjipfimhmfhmhaaDoor.Z
open Go Go.RowKit Go.Proofs.YtjipfimhmfhmhaaDoor.E Go.Proofs.YtjipfimhmfhmhaaDoor.G Go.Proofs.YtjipfimhmfhmhaaDoor.K Go.Proofs.YtjipfimhmfhmhaaDoor.F Go.Proofs.YtjipfimhmfhmhaaDoor.M Go.Proofs.YtjipfimhmfhmhaaDoor.R
open Go.Proofs.YtjipfimhmfhmhaaDoorW.PrintWords hiding rd
set_option linter.all false

set_option maxRecDepth 100000
set_option maxHeartbeats 4000000
def digitsS (A : Lz) (args : List FV) (q : FV → FV → Prop) : Prop :=
  match args with
  | [.agg [.int .u64 h, .int .u64 l]] => q (.vec (.int .u64) (A _ fun _ => ii .u64 (digs8 h l))) .dead
  | _ => False
theorem digits_ok : SpecOk EV 76 ⟨false, digitsS⟩ := by
  refine spec_go (.nil _) (fn := Tryd.f76) rfl rfl Tryd.func76 rfl false [] _ ?_
  intro A hA args q h
  unfold digitsS at h
  split at h
  · rename_i hh l
    have e1 : (A Int fun _ => IntKind.i64.wrap (0 + 1)) = 1 := (au hA _).trans (by decide)
    have e2 : (A Int fun _ => IntKind.i64.wrap (1 + 1)) = 2 := (au hA _).trans (by decide)
    have e3 : (A Int fun _ => IntKind.i64.wrap (2 + 1)) = 3 := (au hA _).trans (by decide)
    have e4 : (A Int fun _ => IntKind.i64.wrap (3 + 1)) = 4 := (au hA _).trans (by decide)
    refine ⟨Nat.le_of_ble_eq_true rfl, ?_⟩
    cbv
    refine loop_step hA ?_
    cbv
    (split <;> rename_i hz <;> (try rw [au hA] at hz) <;> first | (exfalso; revert hz; decide) | cbv)
    repeat (refine And.intro (by subst hA; first | decide | rfl | (simp [std, setN]; done) | (simp only [std]; decide)) ?_)
    cbv
    rw [e1]
    refine loop_step hA ?_
    cbv
    (split <;> rename_i hz <;> (try rw [au hA] at hz) <;> first | (exfalso; revert hz; decide) | cbv)
    repeat (refine And.intro (by subst hA; first | decide | rfl | (simp [std, setN]; done) | (simp only [std]; decide)) ?_)
    cbv
    rw [e2]
    refine loop_step hA ?_
    cbv
    (split <;> rename_i hz <;> (try rw [au hA] at hz) <;> first | (exfalso; revert hz; decide) | cbv)
    repeat (refine And.intro (by subst hA; first | decide | rfl | (simp [std, setN]; done) | (simp only [std]; decide)) ?_)
    cbv
    rw [e3]
    refine loop_step hA ?_
    cbv
    (split <;> rename_i hz <;> (try rw [au hA] at hz) <;> first | (exfalso; revert hz; decide) | cbv)
    repeat (refine And.intro (by subst hA; first | decide | rfl | (simp [std, setN]; done) | (simp only [std]; decide)) ?_)
    cbv
    rw [e4]
    refine loop_step hA ?_
    cbv
    (split <;> rename_i hz <;> (try rw [au hA] at hz) <;> first | (exfalso; revert hz; decide) | cbv)
    repeat (refine And.intro (by subst hA; first | decide | rfl | (simp [std, setN]; done) | (simp only [std]; decide)) ?_)
    subst hA
    refine fin1 h ?_
    rfl
  · exact h.elim
def numberS (A : Lz) (args : List FV) (q : FV → FV → Prop) : Prop :=
  match args with
  | [.vec (.int .u64) l] => (A _ fun _ => l.length = 8) ∧ q (.agg [.int .u64 (A _ fun _ => num4 (toIs l) 4), .int .u64 (A _ fun _ => num4 (toIs l) 0)]) .dead
  | _ => False
theorem number_ok : SpecOk EV 94 ⟨false, numberS⟩ := by
  refine spec_go (.nil _) (fn := Tryd.f94) rfl rfl Tryd.func94 rfl false [] _ ?_
  intro A hA args q h
  unfold numberS at h
  split at h
  · rename_i l
    obtain ⟨hl, h⟩ := h
    have hl : l.length = 8 := hl
    have e1 : (A Int fun _ => IntKind.i64.wrap (3 - 1)) = 2 := (au hA _).trans (by decide)
    have e2 : (A Int fun _ => IntKind.i64.wrap (2 - 1)) = 1 := (au hA _).trans (by decide)
    have e3 : (A Int fun _ => IntKind.i64.wrap (1 - 1)) = 0 := (au hA _).trans (by decide)
    have e4 : (A Int fun _ => IntKind.i64.wrap (0 - 1)) = -1 := (au hA _).trans (by decide)
    refine ⟨Nat.le_of_ble_eq_true rfl, ?_⟩
    cbv
    refine loop_step hA ?_
    cbv
    (split <;> rename_i hz <;> (try rw [au hA] at hz) <;> first | (exfalso; revert hz; decide) | cbv)
    repeat (refine And.intro (by subst hA; first | decide | rfl | (simp [std, setN]; done) | (simp only [std]; decide) | (simp [std]; omega)) ?_)
    cbv
    rw [e1]
    refine loop_step hA ?_
    cbv
    (split <;> rename_i hz <;> (try rw [au hA] at hz) <;> first | (exfalso; revert hz; decide) | cbv)
    repeat (refine And.intro (by subst hA; first | decide | rfl | (simp [std, setN]; done) | (simp only [std]; decide) | (simp [std]; omega)) ?_)
    cbv
    rw [e2]
    refine loop_step hA ?_
    cbv
    (split <;> rename_i hz <;> (try rw [au hA] at hz) <;> first | (exfalso; revert hz; decide) | cbv)
    repeat (refine And.intro (by subst hA; first | decide | rfl | (simp [std, setN]; done) | (simp only [std]; decide) | (simp [std]; omega)) ?_)
    cbv
    rw [e3]
    refine loop_step hA ?_
    cbv
    (split <;> rename_i hz <;> (try rw [au hA] at hz) <;> first | (exfalso; revert hz; decide) | cbv)
    repeat (refine And.intro (by subst hA; first | decide | rfl | (simp [std, setN]; done) | (simp only [std]; decide) | (simp [std]; omega)) ?_)
    cbv
    rw [e4]
    refine loop_step hA ?_
    cbv
    (split <;> rename_i hz <;> (try rw [au hA] at hz) <;> first | (exfalso; revert hz; decide) | cbv)
    subst hA
    refine fin1 h ?_
    simp only [num4, ← nth_toI]
    rfl
  · exact h.elim
def rcmp1S (A : Lz) (args : List FV) (q : FV → FV → Prop) : Prop :=
  match args with
  | [.agg [.int .u64 h, .int .u64 l], .agg [.int .u64 h', .int .u64 l']] => q (.int .i64 (A _ fun _ => cmpD (digs8 h l) (digs8 h' l') 8)) .dead
  | _ => False
theorem rcmp1_ok : SpecOk EV 49 ⟨false, rcmp1S⟩ := by
  refine spec_go (.cons (f := 76) digits_ok (.nil _)) (fn := Tryd.f49) rfl rfl Tryd.func49 rfl false [] _ ?_
  intro A hA args q h
  unfold rcmp1S at h
  split at h
  · rename_i h1 l1 h2 l2
    have a1 : (toIs (ii .u64 (digs8 h1 l1))) = digs8 h1 l1 := toIs_ii _ _
    have a2 : (toIs (ii .u64 (digs8 h2 l2))) = digs8 h2 l2 := toIs_ii _ _
    refine ⟨Nat.le_of_ble_eq_true rfl, ?_⟩
    cbv
    repeat (refine And.intro (by subst hA; first | decide | rfl | (simp [std, digs8]; done)) ?_)
    refine loop_intro hA [(5, .vec (.int .u64)), (6, .vec (.int .u64)), (7, .keep)] (fun n s => ∃ x y i, s = st [(5, .ptr 5 0 0), (6, .ptr 6 0 0), (7, .int .i64 i)] [(5, ⟨0, true, .arr (.int .u64) true x⟩), (6, ⟨0, true, .arr (.int .u64) true y⟩)] ∧ x = ii .u64 (digs8 h1 l1) ∧ y = ii .u64 (digs8 h2 l2) ∧ i = (n : Int) - 1 ∧ n ≤ 8 ∧ cmpD (digs8 h1 l1) (digs8 h2 l2) 8 = cmpD (digs8 h1 l1) (digs8 h2 l2) n) 8 ?_ ?_
    · cbv
      (iterate 3 apply Exists.intro); refine ⟨?_, ?_⟩; cbv
      exact ⟨au hA _, au hA _, rfl, Nat.le_refl _, rfl⟩
    · rintro n s ⟨x, y, i, rfl, hx, hy, hi, hn, hc⟩
      have lx : x.length = 8 := by rw [hx]; rfl
      have ly : y.length = 8 := by rw [hy]; rfl
      have tx : toIs x = digs8 h1 l1 := by rw [hx]; exact a1
      have ty : toIs y = digs8 h2 l2 := by rw [hy]; exact a2
      cbv
      rcases n with _ | n
      · have hi : i = -1 := by simp only [nc] at hi; omega
        repeat' (first | (refine And.intro (by (try simp only [List.length_replicate, Int.zero_tmod, toIs_ii, ii_len, Int.zero_tdiv, w0, hA, nE, shl, shr, std, zE32, zE64, nc, nth_rd', i64w, u32_wrap, p32, p31, p63, w6432, toIs_len, set_toIs, repl_toIs, app_toIs, tos1, tos0, p1, take_toIs, drop_toIs, ieq_iff, ieq_iff', ilt_iff, ilt_iff', ile_iff, ile_iff', gt_iff_lt, ge_iff_le, Bool.not_eq_true', Bool.not_eq_false', List.drop_zero, Nat.sub_zero]); first | done | exact ix ‹_› ‹_› | exact ix (Int.le_refl 0) ‹_› | decide | exact ap4 ‹_› | exact ap8 ‹_› | exact mk4 ‹_› ‹_› | exact mk8 ‹_› ‹_› | exact ix' ‹_› ‹_› | assumption | omega) ?_; cbv) | (split <;> rename_i hz <;> (try simp only [List.length_replicate, Int.zero_tmod, toIs_ii, ii_len, Int.zero_tdiv, w0, hA, nE, shl, shr, std, zE32, zE64, nc, nth_rd', i64w, u32_wrap, p32, p31, p63, w6432, toIs_len, set_toIs, repl_toIs, app_toIs, tos1, tos0, p1, take_toIs, drop_toIs, ieq_iff, ieq_iff', ilt_iff, ilt_iff', ile_iff, ile_iff', gt_iff_lt, ge_iff_le, Bool.not_eq_true', Bool.not_eq_false', List.drop_zero, Nat.sub_zero] at hz) <;> first | contradiction | (exfalso; omega) | (exfalso; have hz2 := hz.symm.trans ‹_ = true›; cases hz2; done) | (exfalso; have hz2 := hz.symm.trans ‹_ = false›; cases hz2; done) | cbv))
        subst hA
        exact fin_int h hc.symm
      · have hi : i = (n : Int) := by simp only [nc] at hi; omega
        have hk : ∀ l : List Int, YtjipfimhmfhmhaaDoorW.PrintWords.rd l i = l.getD n 0 := fun l => by rw [hi]; exact rd_nat l n
        replace hc := hc.trans (cmpD_succ _ _ n)
        generalize cmpD (digs8 h1 l1) (digs8 h2 l2) 8 = c0 at h hc
        have hb : 0 ≤ i ∧ i.toNat < 8 := by omega
        repeat' (first | (refine And.intro (by (try simp only [List.length_replicate, Int.zero_tmod, toIs_ii, ii_len, Int.zero_tdiv, w0, hA, nE, shl, shr, std, zE32, zE64, nc, nth_rd', i64w, u32_wrap, p32, p31, p63, w6432, toIs_len, set_toIs, repl_toIs, app_toIs, tos1, tos0, p1, take_toIs, drop_toIs, ieq_iff, ieq_iff', ilt_iff, ilt_iff', ile_iff, ile_iff', gt_iff_lt, ge_iff_le, Bool.not_eq_true', Bool.not_eq_false', List.drop_zero, Nat.sub_zero]); first | done | exact ix ‹_› ‹_› | exact ix (Int.le_refl 0) ‹_› | decide | exact ap4 ‹_› | exact ap8 ‹_› | exact mk4 ‹_› ‹_› | exact mk8 ‹_› ‹_› | exact ix' ‹_› ‹_› | assumption | omega) ?_; cbv) | (split <;> rename_i hz <;> (try simp only [List.length_replicate, Int.zero_tmod, toIs_ii, ii_len, Int.zero_tdiv, w0, hA, nE, shl, shr, std, zE32, zE64, nc, nth_rd', i64w, u32_wrap, p32, p31, p63, w6432, toIs_len, set_toIs, repl_toIs, app_toIs, tos1, tos0, p1, take_toIs, drop_toIs, ieq_iff, ieq_iff', ilt_iff, ilt_iff', ile_iff, ile_iff', gt_iff_lt, ge_iff_le, Bool.not_eq_true', Bool.not_eq_false', List.drop_zero, Nat.sub_zero] at hz) <;> first | contradiction | (exfalso; omega) | (exfalso; have hz2 := hz.symm.trans ‹_ = true›; cases hz2; done) | (exfalso; have hz2 := hz.symm.trans ‹_ = false›; cases hz2; done) | cbv))
        all_goals (rw [hk, hk, tx, ty] at *)
        · rw [if_pos hz] at hc
          subst hA
          exact fin_int h hc.symm
        · rw [if_neg (by assumption), if_pos hz] at hc
          subst hA
          exact fin_int h hc.symm
        · rw [if_neg (by assumption), if_neg hz] at hc
          refine ⟨n, Nat.lt_succ_self n, ?_⟩
          cbv
          (iterate 3 apply Exists.intro); refine ⟨?_, ?_⟩; cbv
          refine ⟨hx, hy, ?_, by omega, hc⟩
          rw [au hA, hi, i64w]
          unfold wrap64
          omega
  · exact h.elim
end Go.Proofs.YtjipfimhmfhmhaaDoor.Z
