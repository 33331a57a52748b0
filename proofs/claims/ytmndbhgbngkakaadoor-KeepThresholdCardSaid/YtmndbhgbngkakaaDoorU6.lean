/- The ranks of items over plain data; RankTells. No condition. -/
import Derived.Test.YtmndbhgbngkakaaDoorU5
namespace Go.Proofs.YtmndbhgbngkakaaDoor.Z
open Go Go.RowKit Go.Proofs.YtmndbhgbngkakaaDoor.E Go.Proofs.YtmndbhgbngkakaaDoor.G Go.Proofs.YtmndbhgbngkakaaDoor.K Go.Proofs.YtmndbhgbngkakaaDoor.F Go.Proofs.YtmndbhgbngkakaaDoor.M Go.Proofs.YtmndbhgbngkakaaDoor.R
open Go.Proofs.YtmndbhgbngkakaaDoorW.PrintWords hiding rd
set_option linter.all false

set_option maxRecDepth 100000
set_option maxHeartbeats 4000000
/-- An item's rank: its limbs, if it may be. -/
def rkN (x : It) : List FV := if chkIt x = 0 then nl (x.u.toNat / Nat.gcd x.u.toNat x.w.toNat) else []
def rkD (x : It) : List FV := if chkIt x = 0 then nl (x.w.toNat / Nat.gcd x.u.toNat x.w.toNat) else []
def rankG (A : Lz) (x : It) : FV := .tup [.agg [.row (.int .u32) (A _ fun _ => rkN x), .row (.int .u32) (A _ fun _ => rkD x)], .int .i64 (A _ fun _ => chkIt x)]
theorem u64_nat {a : Int} (h : u64b a) : a = (a.toNat : Int) ∧ a.toNat < 18446744073709551616 := by obtain ⟨h0, h1⟩ := h; omega
theorem chk_pos {x : It} (h : chkIt x = 0) : x.w ≠ 0 := by
  unfold chkIt at h
  split at h
  · cases h
  · split at h
    · cases h
    · assumption
theorem big64 {n : Nat} (h : n < 18446744073709551616) : n < Big := big_of (by omega)
theorem u64_ex {a : Int} (h : u64b a) : ∃ n : Nat, a = n ∧ n < 18446744073709551616 := ⟨a.toNat, u64_nat h⟩
theorem rk_of {k : ByteArray} {u w : Int} {a b : Nat} (hu : u = a) (hw : w = b) (h : chkIt ⟨k, u, w⟩ = 0) : rkN ⟨k, u, w⟩ = nl (a / Nat.gcd a b) ∧ rkD ⟨k, u, w⟩ = nl (b / Nat.gcd a b) ∧ b ≠ 0 := by
  have h0 : w ≠ 0 := chk_pos h
  subst hu; subst hw
  exact ⟨if_pos h, if_pos h, by omega⟩
theorem rank_ok : SpecOk EV 23 ⟨false, it1 rankG⟩ := by
  refine .fit [.agg [.row (.int .u32), .row (.int .u32)]] (spec_go (.cons (f := 11) check_ok (.cons (f := 37) ofS_ok (.cons (f := 36) make_ok (.nil _)))) (fn := Tryd.f23) rfl rfl Tryd.func23 rfl false [] _ ?_)
  rintro A hA args q0 ⟨hw, q, hq, h⟩
  unfold it1 at h
  split at h
  · rename_i k u w
    obtain ⟨hx, h⟩ := h
    obtain ⟨a, ea, ha⟩ := u64_ex hx.1
    obtain ⟨b, eb, hb⟩ := u64_ex hx.2
    have hx : It.ok ⟨k, u, w⟩ := hx
    refine ⟨Nat.le_of_ble_eq_true rfl, ?_⟩
    by_cases hc : chkIt ⟨k, u, w⟩ = 0
    · obtain ⟨r1, r2, r3⟩ := rk_of ea eb hc
      cbv
      repeat' (first | (refine And.intro (by (try simp only [hA, shl, shr, std, nc, wd0, wd1, wd2, wd3]); first | done | exact ix ‹_› ‹_› | exact ix (Int.le_refl 0) ‹_› | decide | exact ap4 ‹_› | exact ap8 ‹_› | exact mk4 ‹_› ‹_› | exact mk8 ‹_› ‹_› | exact ix' ‹_› ‹_› | assumption | omega) ?_; cbv) | (split <;> rename_i hz <;> (try simp only [hA, shl, shr, std, nc, wd0, wd1, wd2, wd3] at hz) <;> first | contradiction | (exfalso; omega) | (exfalso; have hz2 := hz.symm.trans ‹_ = true›; cases hz2; done) | (exfalso; have hz2 := hz.symm.trans ‹_ = false›; cases hz2; done) | cbv))
      refine ⟨a, ⟨ea, ha⟩, ?_⟩
      cbv
      refine ⟨b, ⟨eb, hb⟩, ?_⟩
      cbv
      refine ⟨a, b, ⟨au hA _, au hA _, big64 ha, big64 hb, r3⟩, ?_⟩
      cbv
      refine hq _ _ ?_
      subst hA
      refine fin1 h ?_
      simp only [std, rankG, r1, r2, hc]
      rfl
    · cbv
      repeat' (first | (refine And.intro (by (try simp only [hA, shl, shr, std, nc, wd0, wd1, wd2, wd3]); first | done | exact ix ‹_› ‹_› | exact ix (Int.le_refl 0) ‹_› | decide | exact ap4 ‹_› | exact ap8 ‹_› | exact mk4 ‹_› ‹_› | exact mk8 ‹_› ‹_› | exact ix' ‹_› ‹_› | assumption | omega) ?_; cbv) | (split <;> rename_i hz <;> (try simp only [hA, shl, shr, std, nc, wd0, wd1, wd2, wd3] at hz) <;> first | contradiction | (exfalso; omega) | (exfalso; have hz2 := hz.symm.trans ‹_ = true›; cases hz2; done) | (exfalso; have hz2 := hz.symm.trans ‹_ = false›; cases hz2; done) | cbv))
      refine hq _ _ ?_
      subst hA
      refine fin1 h ?_
      simp only [std, rankG, rkN, rkD, if_neg hc]
      rfl
  · exact h.elim
end Go.Proofs.YtmndbhgbngkakaaDoor.Z
