/- Items over plain data: both numbers times one number; RankScale. No condition. -/
import Derived.Test.YtmkblnajnpmflaaDoorU6
namespace Go.Proofs.YtmkblnajnpmflaaDoor.Z
open Go Go.RowKit Go.Proofs.YtmkblnajnpmflaaDoor.E Go.Proofs.YtmkblnajnpmflaaDoor.G Go.Proofs.YtmkblnajnpmflaaDoor.K Go.Proofs.YtmkblnajnpmflaaDoor.F Go.Proofs.YtmkblnajnpmflaaDoor.M Go.Proofs.YtmkblnajnpmflaaDoor.R
open Go.Proofs.YtmkblnajnpmflaaDoorW.PrintWords hiding rd
set_option linter.all false

set_option maxRecDepth 100000
set_option maxHeartbeats 4000000
theorem ordI_scale {a b n : Int} (h : 0 < n) : ordI (a * n) (b * n) = ordI a b := by
  unfold ordI
  have h1 : a * n < b * n ↔ a < b := Int.mul_lt_mul_right h
  have h2 : b * n < a * n ↔ b < a := Int.mul_lt_mul_right h
  simp only [h1, h2]
theorem less_self : ∀ l : List UInt8, Op.bytesLess l l = false
  | [] => rfl
  | a :: l => by simp [Op.bytesLess, less_self l]
theorem cmpB_self (k : ByteArray) : cmpB k k = 0 := by
  rw [cmpB_eq, if_neg (by rw [less_self]; simp), if_pos rfl]
theorem cmp_scale {k : ByteArray} {u w n : Int} {y : It} (h : 0 < n) : cmpIt ⟨k, u * n, w * n⟩ y = cmpIt ⟨k, u, w⟩ y := by
  unfold cmpIt
  have e1 : u * n * y.w = u * y.w * n := by grind
  have e2 : y.u * (w * n) = y.u * w * n := by grind
  simp only [e1, e2, ordI_scale h]
theorem ordI_self (a : Int) : ordI a a = 0 := by unfold ordI; simp
theorem cmp_scaled (k : ByteArray) (u w n : Int) : cmpIt ⟨k, u, w⟩ ⟨k, u * n, w * n⟩ = 0 := by
  unfold cmpIt
  have e : u * (w * n) = u * n * w := by grind
  simp only [e, ordI_self, cmpB_self]
  rfl
theorem chk_scale {k : ByteArray} {u w n : Int} (h : 0 < n) : chkIt ⟨k, u * n, w * n⟩ = chkIt ⟨k, u, w⟩ := by
  unfold chkIt
  have : w * n = 0 ↔ w = 0 := by rw [Int.mul_eq_zero]; omega
  simp only [this]
theorem rk_scale {k : ByteArray} {u w n : Int} (hu : u64b u) (hw : u64b w) (h : 0 < n) : rkN ⟨k, u * n, w * n⟩ = rkN ⟨k, u, w⟩ ∧ rkD ⟨k, u * n, w * n⟩ = rkD ⟨k, u, w⟩ := by
  obtain ⟨a, rfl, _⟩ := u64_ex hu
  obtain ⟨b, rfl, _⟩ := u64_ex hw
  obtain ⟨m, rfl⟩ : ∃ m : Nat, n = m := ⟨n.toNat, by omega⟩
  have hm : 0 < m := by omega
  unfold rkN rkD
  rw [chk_scale h]
  simp only [← Int.natCast_mul, Int.toNat_natCast, Nat.gcd_mul_right, Nat.mul_div_mul_right _ _ hm, and_self]
theorem u64_scale {u n : Int} (hu : 0 ≤ u ∧ u < 4294967296) (hn : 0 ≤ n ∧ n < 4294967296) : u64b (u * n) := by
  have h1 : 0 ≤ u * n := Int.mul_nonneg hu.1 hn.1
  have h2 : u * n ≤ 4294967295 * 4294967295 := Int.mul_le_mul (by omega) (by omega) hn.1 (by omega)
  unfold u64b
  omega
theorem u64_keep {x : Int} (h : u64b x) : IntKind.u64.wrap x = x := by
  unfold u64b at h
  simp [IntKind.wrap, IntKind.bits, IntKind.signed]
  omega
def scaleRun (A : Lz) (args : List FV) (q : FV → FV → Prop) : Prop :=
  match args with
  | [.agg [.str k, .int .u64 u, .int .u64 w], .agg [.str k', .int .u64 u', .int .u64 w'], .int .u32 n] => (A _ fun _ => It.ok ⟨k, u, w⟩ ∧ It.ok ⟨k', u', w'⟩ ∧ 0 ≤ n ∧ n < 4294967296) ∧ q (.bool true) .dead
  | _ => False
theorem scale_ok : SpecOk EV 6 ⟨false, scaleRun⟩ := by
  refine spec_go (.cons (f := 20) check_ok (.cons (f := 15) rank_ok (.cons (f := 18) cmpIt_ok (.cons (f := 21) rsame3_ok (.cons (f := 14) awake_ok (.nil _)))))) (fn := Tryd.f6) rfl rfl Tryd.func6 rfl false [] _ ?_
  intro A hA args q h
  unfold scaleRun at h
  split at h
  · rename_i k u w k' u' w' n
    obtain ⟨⟨hx, hy, hn⟩, h⟩ := h
    have hx : It.ok ⟨k, u, w⟩ := hx
    have hy : It.ok ⟨k', u', w'⟩ := hy
    have hn : 0 ≤ n ∧ n < 4294967296 := hn
    have hxy := And.intro hx hy
    have hr := rk_len hx
    have hx1 := hx.1
    have hx2 := hx.2
    unfold u64b at hx1 hx2
    refine ⟨Nat.le_of_ble_eq_true rfl, ?_⟩
    cbv
    repeat' (first | (refine And.intro (by (try simp only [List.length_replicate, Int.zero_tmod, toIs_ii, ii_len, Int.zero_tdiv, w0, hA, nE, shl, shr, std, zE32, zE64, nc, nth_rd', i64w, u32_wrap, p32, p31, p63, w6432, toIs_len, set_toIs, repl_toIs, app_toIs, tos1, tos0, p1, take_toIs, drop_toIs, ieq_iff, ieq_iff', ilt_iff, ilt_iff', ile_iff, ile_iff', gt_iff_lt, ge_iff_le, Bool.not_eq_true', Bool.not_eq_false', List.drop_zero, Nat.sub_zero]); first | done | exact ix ‹_› ‹_› | exact ix (Int.le_refl 0) ‹_› | decide | exact ap4 ‹_› | exact ap8 ‹_› | exact mk4 ‹_› ‹_› | exact mk8 ‹_› ‹_› | exact ix' ‹_› ‹_› | assumption | omega) ?_; cbv) | (split <;> rename_i hz <;> (try simp only [List.length_replicate, Int.zero_tmod, toIs_ii, ii_len, Int.zero_tdiv, w0, hA, nE, shl, shr, std, zE32, zE64, nc, nth_rd', i64w, u32_wrap, p32, p31, p63, w6432, toIs_len, set_toIs, repl_toIs, app_toIs, tos1, tos0, p1, take_toIs, drop_toIs, ieq_iff, ieq_iff', ilt_iff, ilt_iff', ile_iff, ile_iff', gt_iff_lt, ge_iff_le, Bool.not_eq_true', Bool.not_eq_false', List.drop_zero, Nat.sub_zero] at hz) <;> first | contradiction | (exfalso; omega) | (exfalso; have hz2 := hz.symm.trans ‹_ = true›; cases hz2; done) | (exfalso; have hz2 := hz.symm.trans ‹_ = false›; cases hz2; done) | cbv))
    any_goals (subst hA; exact h; done)
    all_goals
      have hp : 0 < n := by omega
      have b1 : 0 ≤ u ∧ u < 4294967296 := ⟨hx1.1, by omega⟩
      have b2 : 0 ≤ w ∧ w < 4294967296 := ⟨hx2.1, by omega⟩
      have e1 : IntKind.u64.wrap n = n := u64_keep ⟨hn.1, by omega⟩
      have e2 : IntKind.u64.wrap (u * n) = u * n := u64_keep (u64_scale b1 hn)
      have e3 : IntKind.u64.wrap (w * n) = w * n := u64_keep (u64_scale b2 hn)
      have ok : It.ok ⟨k, u * n, w * n⟩ := ⟨u64_scale b1 hn, u64_scale b2 hn⟩
      subst hA
      simp only [std, e1, e2, e3] at *
      first
      | exact ⟨ok, ⟨ok, hy⟩, hxy, ⟨hx, ok⟩, hr, h⟩
      | (exfalso
         simp only [cmp_scale hp, cmp_scaled, chk_scale hp, rk_scale hx.1 hx.2 hp, not_true] at hz
         done)
      | (exfalso
         simp only [cmp_scale hp, cmp_scaled, chk_scale hp, rk_scale hx.1 hx.2 hp, and_self, decide_true] at hz
         cases hz
         done)
      | (exfalso; rw [chk_scale hp] at hz; contradiction)
  · exact h.elim
end Go.Proofs.YtmkblnajnpmflaaDoor.Z
