/- The ranks of items over plain data; RankTells. No condition. -/
import Derived.Test.YtjipfimhmfhmhaaDoorU5
namespace Go.Proofs.YtjipfimhmfhmhaaDoor.Z
open Go Go.RowKit Go.Proofs.YtjipfimhmfhmhaaDoor.E Go.Proofs.YtjipfimhmfhmhaaDoor.G Go.Proofs.YtjipfimhmfhmhaaDoor.K Go.Proofs.YtjipfimhmfhmhaaDoor.F Go.Proofs.YtjipfimhmfhmhaaDoor.M Go.Proofs.YtjipfimhmfhmhaaDoor.R
open Go.Proofs.YtjipfimhmfhmhaaDoorW.PrintWords hiding rd
set_option linter.all false

set_option maxRecDepth 100000
set_option maxHeartbeats 4000000
/-- An item's rank: its limbs, if it may be. -/
def rkN (x : It) : List FV := if chkIt x = 0 then nl (x.u.toNat / Nat.gcd x.u.toNat x.w.toNat) else []
def rkD (x : It) : List FV := if chkIt x = 0 then nl (x.w.toNat / Nat.gcd x.u.toNat x.w.toNat) else []
def rankG (A : Lz) (x : It) : FV := .tup [.agg [.row (.int .u32) (A _ fun _ => rkN x), .row (.int .u32) (A _ fun _ => rkD x)], .int .i64 (A _ fun _ => chkIt x)]
theorem u64_nat {a : Int} (h : u64b a) : a = (a.toNat : Int) ∧ a.toNat < 18446744073709551616 := by obtain ⟨h0, h1⟩ := h; omega
theorem chk_pos {x : It} (h : chkIt x = 0) : x.w ≠ 0 := by
  unfold chkIt at h
  split at h
  · cases h
  · split at h
    · cases h
    · assumption
theorem big64 {n : Nat} (h : n < 18446744073709551616) : n < Big := big_of (by omega)
theorem u64_ex {a : Int} (h : u64b a) : ∃ n : Nat, a = n ∧ n < 18446744073709551616 := ⟨a.toNat, u64_nat h⟩
theorem rk_of {k : ByteArray} {u w : Int} {a b : Nat} (hu : u = a) (hw : w = b) (h : chkIt ⟨k, u, w⟩ = 0) : rkN ⟨k, u, w⟩ = nl (a / Nat.gcd a b) ∧ rkD ⟨k, u, w⟩ = nl (b / Nat.gcd a b) ∧ b ≠ 0 := by
  have h0 : w ≠ 0 := chk_pos h
  subst hu; subst hw
  exact ⟨if_pos h, if_pos h, by omega⟩
theorem rank_ok : SpecOk EV 15 ⟨false, it1 rankG⟩ := by
  refine .fit [.agg [.row (.int .u32), .row (.int .u32)]] (spec_go (.cons (f := 20) check_ok (.cons (f := 41) ofS_ok (.cons (f := 40) make_ok (.nil _)))) (fn := Tryd.f15) rfl rfl Tryd.func15 rfl false [] _ ?_)
  rintro A hA args q0 ⟨hw, q, hq, h⟩
  unfold it1 at h
  split at h
  · rename_i k u w
    obtain ⟨hx, h⟩ := h
    obtain ⟨a, ea, ha⟩ := u64_ex hx.1
    obtain ⟨b, eb, hb⟩ := u64_ex hx.2
    have hx : It.ok ⟨k, u, w⟩ := hx
    refine ⟨Nat.le_of_ble_eq_true rfl, ?_⟩
    by_cases hc : chkIt ⟨k, u, w⟩ = 0
    · obtain ⟨r1, r2, r3⟩ := rk_of ea eb hc
      cbv
      repeat' (first | (refine And.intro (by (try simp only [List.length_replicate, Int.zero_tmod, toIs_ii, ii_len, Int.zero_tdiv, w0, hA, nE, shl, shr, std, zE32, zE64, nc, nth_rd', i64w, u32_wrap, p32, p31, p63, w6432, toIs_len, set_toIs, repl_toIs, app_toIs, tos1, tos0, p1, take_toIs, drop_toIs, ieq_iff, ieq_iff', ilt_iff, ilt_iff', ile_iff, ile_iff', gt_iff_lt, ge_iff_le, Bool.not_eq_true', Bool.not_eq_false', List.drop_zero, Nat.sub_zero]); first | done | exact ix ‹_› ‹_› | exact ix (Int.le_refl 0) ‹_› | decide | exact ap4 ‹_› | exact ap8 ‹_› | exact mk4 ‹_› ‹_› | exact mk8 ‹_› ‹_› | exact ix' ‹_› ‹_› | assumption | omega) ?_; cbv) | (split <;> rename_i hz <;> (try simp only [List.length_replicate, Int.zero_tmod, toIs_ii, ii_len, Int.zero_tdiv, w0, hA, nE, shl, shr, std, zE32, zE64, nc, nth_rd', i64w, u32_wrap, p32, p31, p63, w6432, toIs_len, set_toIs, repl_toIs, app_toIs, tos1, tos0, p1, take_toIs, drop_toIs, ieq_iff, ieq_iff', ilt_iff, ilt_iff', ile_iff, ile_iff', gt_iff_lt, ge_iff_le, Bool.not_eq_true', Bool.not_eq_false', List.drop_zero, Nat.sub_zero] at hz) <;> first | contradiction | (exfalso; omega) | (exfalso; have hz2 := hz.symm.trans ‹_ = true›; cases hz2; done) | (exfalso; have hz2 := hz.symm.trans ‹_ = false›; cases hz2; done) | cbv))
      refine ⟨a, ⟨ea, ha⟩, ?_⟩
      cbv
      refine ⟨b, ⟨eb, hb⟩, ?_⟩
      cbv
      refine ⟨a, b, ⟨au hA _, au hA _, big64 ha, big64 hb, r3⟩, ?_⟩
      cbv
      refine hq _ _ ?_
      subst hA
      refine fin1 h ?_
      simp only [std, rankG, r1, r2, hc]
      rfl
    · cbv
      repeat' (first | (refine And.intro (by (try simp only [List.length_replicate, Int.zero_tmod, toIs_ii, ii_len, Int.zero_tdiv, w0, hA, nE, shl, shr, std, zE32, zE64, nc, nth_rd', i64w, u32_wrap, p32, p31, p63, w6432, toIs_len, set_toIs, repl_toIs, app_toIs, tos1, tos0, p1, take_toIs, drop_toIs, ieq_iff, ieq_iff', ilt_iff, ilt_iff', ile_iff, ile_iff', gt_iff_lt, ge_iff_le, Bool.not_eq_true', Bool.not_eq_false', List.drop_zero, Nat.sub_zero]); first | done | exact ix ‹_› ‹_› | exact ix (Int.le_refl 0) ‹_› | decide | exact ap4 ‹_› | exact ap8 ‹_› | exact mk4 ‹_› ‹_› | exact mk8 ‹_› ‹_› | exact ix' ‹_› ‹_› | assumption | omega) ?_; cbv) | (split <;> rename_i hz <;> (try simp only [List.length_replicate, Int.zero_tmod, toIs_ii, ii_len, Int.zero_tdiv, w0, hA, nE, shl, shr, std, zE32, zE64, nc, nth_rd', i64w, u32_wrap, p32, p31, p63, w6432, toIs_len, set_toIs, repl_toIs, app_toIs, tos1, tos0, p1, take_toIs, drop_toIs, ieq_iff, ieq_iff', ilt_iff, ilt_iff', ile_iff, ile_iff', gt_iff_lt, ge_iff_le, Bool.not_eq_true', Bool.not_eq_false', List.drop_zero, Nat.sub_zero] at hz) <;> first | contradiction | (exfalso; omega) | (exfalso; have hz2 := hz.symm.trans ‹_ = true›; cases hz2; done) | (exfalso; have hz2 := hz.symm.trans ‹_ = false›; cases hz2; done) | cbv))
      refine hq _ _ ?_
      subst hA
      refine fin1 h ?_
      simp only [std, rankG, rkN, rkD, if_neg hc]
      rfl
  · exact h.elim
def rtSh : List Shp := [.agg [.row (.int .u32), .row (.int .u32)], .agg [.row (.int .u32), .row (.int .u32)]]
theorem rsame3_ok : SpecOk EV 21 ⟨false, fun A xs q => rsame2 A (fitZ rtSh xs) q⟩ := rsame2_ok.args rtSh
theorem nl_long {n : Nat} (h : n < 18446744073709551616) : (nl n).length < 9223372036854775807 := nl_lt (big64 h)
theorem rk_len {x : It} (h : x.ok) : (rkN x).length < 9223372036854775807 ∧ (rkD x).length < 9223372036854775807 := by
  obtain ⟨_, u2⟩ := u64_nat h.1
  obtain ⟨_, w2⟩ := u64_nat h.2
  unfold rkN rkD
  split
  · exact ⟨nl_long (Nat.lt_of_le_of_lt (Nat.div_le_self _ _) u2), nl_long (Nat.lt_of_le_of_lt (Nat.div_le_self _ _) w2)⟩
  · exact ⟨by simp, by simp⟩
def tellsRun (A : Lz) (args : List FV) (q : FV → FV → Prop) : Prop :=
  match args with
  | [.agg [.str k, .int .u64 u, .int .u64 w], .agg [.str k', .int .u64 u', .int .u64 w']] => (A _ fun _ => It.ok ⟨k, u, w⟩ ∧ It.ok ⟨k', u', w'⟩) ∧ q (.bool true) .dead
  | _ => False
theorem tells_ok : SpecOk EV 3 ⟨false, tellsRun⟩ := by
  refine spec_go (.cons (f := 20) check_ok (.cons (f := 15) rank_ok (.cons (f := 17) rofS_ok (.cons (f := 16) rreduce_ok (.cons (f := 18) cmpIt_ok (.cons (f := 19) rcmpIt_ok (.cons (f := 21) rsame3_ok (.cons (f := 14) awake_ok (.nil _))))))))) (fn := Tryd.f3) rfl rfl Tryd.func3 rfl false [] _ ?_
  intro A hA args q h
  unfold tellsRun at h
  split at h
  · rename_i k u w k' u' w'
    obtain ⟨⟨hx, hy⟩, h⟩ := h
    obtain ⟨a, ea, ha⟩ := u64_ex hx.1
    obtain ⟨b, eb, hb⟩ := u64_ex hx.2
    have hx : It.ok ⟨k, u, w⟩ := hx
    have hxy := And.intro hx hy
    have hr := rk_len hx
    refine ⟨Nat.le_of_ble_eq_true rfl, ?_⟩
    by_cases c1 : 64 < (k.size : Int)
    · have hc : chkIt ⟨k, u, w⟩ = 5 := if_pos c1
      have rn : rkN ⟨k, u, w⟩ = [] := if_neg (by omega)
      have rd : rkD ⟨k, u, w⟩ = [] := if_neg (by omega)
      cbv
      repeat' (first | (refine And.intro (by (try simp only [List.length_replicate, Int.zero_tmod, toIs_ii, ii_len, Int.zero_tdiv, w0, hA, nE, shl, shr, std, zE32, zE64, nc, nth_rd', i64w, u32_wrap, p32, p31, p63, w6432, toIs_len, set_toIs, repl_toIs, app_toIs, tos1, tos0, p1, take_toIs, drop_toIs, ieq_iff, ieq_iff', ilt_iff, ilt_iff', ile_iff, ile_iff', gt_iff_lt, ge_iff_le, Bool.not_eq_true', Bool.not_eq_false', List.drop_zero, Nat.sub_zero]); first | done | exact ix ‹_› ‹_› | exact ix (Int.le_refl 0) ‹_› | decide | exact ap4 ‹_› | exact ap8 ‹_› | exact mk4 ‹_› ‹_› | exact mk8 ‹_› ‹_› | exact ix' ‹_› ‹_› | assumption | omega) ?_; cbv) | (split <;> rename_i hz <;> (try simp only [List.length_replicate, Int.zero_tmod, toIs_ii, ii_len, Int.zero_tdiv, w0, hA, nE, shl, shr, std, zE32, zE64, nc, nth_rd', i64w, u32_wrap, p32, p31, p63, w6432, toIs_len, set_toIs, repl_toIs, app_toIs, tos1, tos0, p1, take_toIs, drop_toIs, ieq_iff, ieq_iff', ilt_iff, ilt_iff', ile_iff, ile_iff', gt_iff_lt, ge_iff_le, Bool.not_eq_true', Bool.not_eq_false', List.drop_zero, Nat.sub_zero] at hz) <;> first | contradiction | (exfalso; omega) | (exfalso; have hz2 := hz.symm.trans ‹_ = true›; cases hz2; done) | (exfalso; have hz2 := hz.symm.trans ‹_ = false›; cases hz2; done) | cbv))
      all_goals first | (subst hA; exact h) | (exfalso; simp [rn, rd, toIs] at hz; done)
    · by_cases c2 : w = 0
      · have hc : chkIt ⟨k, u, w⟩ = 7 := (if_neg c1).trans (if_pos c2)
        have rn : rkN ⟨k, u, w⟩ = [] := if_neg (by omega)
        have rd : rkD ⟨k, u, w⟩ = [] := if_neg (by omega)
        cbv
        repeat' (first | (refine And.intro (by (try simp only [List.length_replicate, Int.zero_tmod, toIs_ii, ii_len, Int.zero_tdiv, w0, hA, nE, shl, shr, std, zE32, zE64, nc, nth_rd', i64w, u32_wrap, p32, p31, p63, w6432, toIs_len, set_toIs, repl_toIs, app_toIs, tos1, tos0, p1, take_toIs, drop_toIs, ieq_iff, ieq_iff', ilt_iff, ilt_iff', ile_iff, ile_iff', gt_iff_lt, ge_iff_le, Bool.not_eq_true', Bool.not_eq_false', List.drop_zero, Nat.sub_zero]); first | done | exact ix ‹_› ‹_› | exact ix (Int.le_refl 0) ‹_› | decide | exact ap4 ‹_› | exact ap8 ‹_› | exact mk4 ‹_› ‹_› | exact mk8 ‹_› ‹_› | exact ix' ‹_› ‹_› | assumption | omega) ?_; cbv) | (split <;> rename_i hz <;> (try simp only [List.length_replicate, Int.zero_tmod, toIs_ii, ii_len, Int.zero_tdiv, w0, hA, nE, shl, shr, std, zE32, zE64, nc, nth_rd', i64w, u32_wrap, p32, p31, p63, w6432, toIs_len, set_toIs, repl_toIs, app_toIs, tos1, tos0, p1, take_toIs, drop_toIs, ieq_iff, ieq_iff', ilt_iff, ilt_iff', ile_iff, ile_iff', gt_iff_lt, ge_iff_le, Bool.not_eq_true', Bool.not_eq_false', List.drop_zero, Nat.sub_zero] at hz) <;> first | contradiction | (exfalso; omega) | (exfalso; have hz2 := hz.symm.trans ‹_ = true›; cases hz2; done) | (exfalso; have hz2 := hz.symm.trans ‹_ = false›; cases hz2; done) | cbv))
        all_goals first | (subst hA; exact h) | (exfalso; simp [rn, rd, toIs] at hz; done)
      · have hc : chkIt ⟨k, u, w⟩ = 0 := (if_neg c1).trans (if_neg c2)
        obtain ⟨r1, r2, r3⟩ := rk_of ea eb hc
        cbv
        repeat' (first | (refine And.intro (by (try simp only [List.length_replicate, Int.zero_tmod, toIs_ii, ii_len, Int.zero_tdiv, w0, hA, nE, shl, shr, std, zE32, zE64, nc, nth_rd', i64w, u32_wrap, p32, p31, p63, w6432, toIs_len, set_toIs, repl_toIs, app_toIs, tos1, tos0, p1, take_toIs, drop_toIs, ieq_iff, ieq_iff', ilt_iff, ilt_iff', ile_iff, ile_iff', gt_iff_lt, ge_iff_le, Bool.not_eq_true', Bool.not_eq_false', List.drop_zero, Nat.sub_zero]); first | done | exact ix ‹_› ‹_› | exact ix (Int.le_refl 0) ‹_› | decide | exact ap4 ‹_› | exact ap8 ‹_› | exact mk4 ‹_› ‹_› | exact mk8 ‹_› ‹_› | exact ix' ‹_› ‹_› | assumption | omega) ?_; cbv) | (split <;> rename_i hz <;> (try simp only [List.length_replicate, Int.zero_tmod, toIs_ii, ii_len, Int.zero_tdiv, w0, hA, nE, shl, shr, std, zE32, zE64, nc, nth_rd', i64w, u32_wrap, p32, p31, p63, w6432, toIs_len, set_toIs, repl_toIs, app_toIs, tos1, tos0, p1, take_toIs, drop_toIs, ieq_iff, ieq_iff', ilt_iff, ilt_iff', ile_iff, ile_iff', gt_iff_lt, ge_iff_le, Bool.not_eq_true', Bool.not_eq_false', List.drop_zero, Nat.sub_zero] at hz) <;> first | contradiction | (exfalso; omega) | (exfalso; have hz2 := hz.symm.trans ‹_ = true›; cases hz2; done) | (exfalso; have hz2 := hz.symm.trans ‹_ = false›; cases hz2; done) | cbv))
        any_goals (subst hA; exact h; done)
        · refine ⟨a, ⟨ea, ha⟩, ?_⟩
          cbv
          refine ⟨b, ⟨eb, hb⟩, ?_⟩
          cbv
          refine ⟨a, b, ⟨au hA _, au hA _, big64 ha, big64 hb, r3⟩, ?_⟩
          cbv
          repeat' (first | (refine And.intro (by (try simp only [List.length_replicate, Int.zero_tmod, toIs_ii, ii_len, Int.zero_tdiv, w0, hA, nE, shl, shr, std, zE32, zE64, nc, nth_rd', i64w, u32_wrap, p32, p31, p63, w6432, toIs_len, set_toIs, repl_toIs, app_toIs, tos1, tos0, p1, take_toIs, drop_toIs, ieq_iff, ieq_iff', ilt_iff, ilt_iff', ile_iff, ile_iff', gt_iff_lt, ge_iff_le, Bool.not_eq_true', Bool.not_eq_false', List.drop_zero, Nat.sub_zero]); first | done | exact ix ‹_› ‹_› | exact ix (Int.le_refl 0) ‹_› | decide | exact ap4 ‹_› | exact ap8 ‹_› | exact mk4 ‹_› ‹_› | exact mk8 ‹_› ‹_› | exact ix' ‹_› ‹_› | assumption | omega) ?_; cbv) | (split <;> rename_i hz <;> (try simp only [List.length_replicate, Int.zero_tmod, toIs_ii, ii_len, Int.zero_tdiv, w0, hA, nE, shl, shr, std, zE32, zE64, nc, nth_rd', i64w, u32_wrap, p32, p31, p63, w6432, toIs_len, set_toIs, repl_toIs, app_toIs, tos1, tos0, p1, take_toIs, drop_toIs, ieq_iff, ieq_iff', ilt_iff, ilt_iff', ile_iff, ile_iff', gt_iff_lt, ge_iff_le, Bool.not_eq_true', Bool.not_eq_false', List.drop_zero, Nat.sub_zero] at hz) <;> first | contradiction | (exfalso; omega) | (exfalso; have hz2 := hz.symm.trans ‹_ = true›; cases hz2; done) | (exfalso; have hz2 := hz.symm.trans ‹_ = false›; cases hz2; done) | cbv))
          all_goals first | (subst hA; exact h) | (exfalso; simp [r1, r2] at hz; done)
  · exact h.elim
end Go.Proofs.YtjipfimhmfhmhaaDoor.Z
