/- Items over plain data. No condition. -/
import Derived.Test.YtmndbhgbngkakaaDoorUY
import Derived.Test.YtmndbhgbngkakaaDoorUB
namespace Go.Proofs.YtmndbhgbngkakaaDoor.Z
open Go Go.RowKit Go.Proofs.YtmndbhgbngkakaaDoor.E Go.Proofs.YtmndbhgbngkakaaDoor.G Go.Proofs.YtmndbhgbngkakaaDoor.K Go.Proofs.YtmndbhgbngkakaaDoor.F Go.Proofs.YtmndbhgbngkakaaDoor.M Go.Proofs.YtmndbhgbngkakaaDoor.R
open Go.Proofs.YtmndbhgbngkakaaDoorW.PrintWords hiding rd
set_option linter.all false

set_option maxRecDepth 100000
set_option maxHeartbeats 4000000
def it1 (g : Lz → It → FV) (A : Lz) (args : List FV) (q : FV → FV → Prop) : Prop :=
  match args with
  | [.agg [.str k, .int .u64 u, .int .u64 w]] => (A _ fun _ => It.ok ⟨k, u, w⟩) ∧ q (g A ⟨k, u, w⟩) .dead
  | _ => False
def it2 (g : Lz → It → It → FV) (A : Lz) (args : List FV) (q : FV → FV → Prop) : Prop :=
  match args with
  | [.agg [.str k, .int .u64 u, .int .u64 w], .agg [.str k', .int .u64 u', .int .u64 w']] => (A _ fun _ => It.ok ⟨k, u, w⟩ ∧ It.ok ⟨k', u', w'⟩) ∧ q (g A ⟨k, u, w⟩ ⟨k', u', w'⟩) .dead
  | _ => False
theorem dChk_eq {k : ByteArray} {u w : Int} (h : It.ok ⟨k, u, w⟩) : dChk [item k u w] = some (.int .i64 (chkIt ⟨k, u, w⟩)) := by
  simp only [dChk, asItem_item h.1 h.2]
  rfl
theorem check_ok : SpecOk EV 11 ⟨false, it1 fun A x => .int .i64 (A _ fun _ => chkIt x)⟩ :=
  (flat2_spec (B := B) (L := LV) (dom := dChk) rfl ⟨_, Tryd.func11, rfl⟩).less fun xs q _ h => by
    unfold it1 at h
    split at h
    · obtain ⟨hx, h⟩ := h
      refine ⟨rfl, .int .i64 (chkIt _), ?_, rfl, h⟩
      exact dChk_eq hx
    · exact h.elim
theorem rcmp_eq {k k' : ByteArray} {u w u' w' : Int} (h : It.ok ⟨k, u, w⟩) (h' : It.ok ⟨k', u', w'⟩) : rcmp k u w k' u' w' = cmpIt ⟨k, u, w⟩ ⟨k', u', w'⟩ := by
  unfold rcmp cmpIt
  rw [full_ord h.1 h'.2 h'.1 h.2]
  rfl
theorem dRank_eq {k k' : ByteArray} {u w u' w' : Int} (h : It.ok ⟨k, u, w⟩) (h' : It.ok ⟨k', u', w'⟩) : dRank [item k u w, item k' u' w'] = some (.int .i64 (cmpIt ⟨k, u, w⟩ ⟨k', u', w'⟩)) := by
  simp only [dRank, asItem_item h.1 h.2, asItem_item h'.1 h'.2, rcmp_eq h h']
theorem cmpIt_ok : SpecOk EV 18 ⟨false, it2 fun A x y => .int .i64 (A _ fun _ => cmpIt x y)⟩ :=
  (flat2_spec (B := B) (L := LV) (dom := dRank) rfl ⟨_, Tryd.func18, rfl⟩).less fun xs q _ h => by
    unfold it2 at h
    split at h
    · obtain ⟨⟨hx, hy⟩, h⟩ := h
      refine ⟨rfl, .int .i64 (cmpIt _ _), ?_, rfl, h⟩
      exact dRank_eq hx hy
    · exact h.elim
def awakeS (A : Lz) (args : List FV) (q : FV → FV → Prop) : Prop :=
  match args with
  | [] => q (.bool true) .dead
  | _ => False
theorem may_ok : SpecOk EV 30 ⟨false, it1 fun A x => .bool (A _ fun _ => mayIt x)⟩ := by
  refine spec_go (.nil _) (fn := Tryd.f30) rfl rfl Tryd.func30 rfl false [] _ ?_
  intro A hA args q h
  unfold it1 at h
  split at h
  · obtain ⟨hx, h⟩ := h
    refine ⟨Nat.le_of_ble_eq_true rfl, ?_⟩
    cbv
    repeat' (first | (refine And.intro (by (try simp only [List.length_replicate, Int.zero_tmod, toIs_ii, ii_len, Int.zero_tdiv, w0, hA, nE, shl, shr, std, zE32, zE64, nc, nth_rd', i64w, u32_wrap, p32, p31, p63, w6432, toIs_len, set_toIs, repl_toIs, app_toIs, tos1, tos0, p1, take_toIs, drop_toIs, ieq_iff, ieq_iff', ilt_iff, ilt_iff', ile_iff, ile_iff', gt_iff_lt, ge_iff_le, Bool.not_eq_true', Bool.not_eq_false', List.drop_zero, Nat.sub_zero]); first | done | exact ix ‹_› ‹_› | exact ix (Int.le_refl 0) ‹_› | decide | exact ap4 ‹_› | exact ap8 ‹_› | exact mk4 ‹_› ‹_› | exact mk8 ‹_› ‹_› | exact ix' ‹_› ‹_› | assumption | omega) ?_; cbv) | (split <;> rename_i hz <;> (try simp only [List.length_replicate, Int.zero_tmod, toIs_ii, ii_len, Int.zero_tdiv, w0, hA, nE, shl, shr, std, zE32, zE64, nc, nth_rd', i64w, u32_wrap, p32, p31, p63, w6432, toIs_len, set_toIs, repl_toIs, app_toIs, tos1, tos0, p1, take_toIs, drop_toIs, ieq_iff, ieq_iff', ilt_iff, ilt_iff', ile_iff, ile_iff', gt_iff_lt, ge_iff_le, Bool.not_eq_true', Bool.not_eq_false', List.drop_zero, Nat.sub_zero] at hz) <;> first | contradiction | (exfalso; omega) | (exfalso; have hz2 := hz.symm.trans ‹_ = true›; cases hz2; done) | (exfalso; have hz2 := hz.symm.trans ‹_ = false›; cases hz2; done) | cbv))
    all_goals
      subst hA
      refine fin_bool h ?_
      simp [std, mayIt, hz, ilt, ile]
  · exact h.elim
theorem rcmpIt_ok : SpecOk EV 28 ⟨false, it2 fun A x y => .int .i64 (A _ fun _ => cmpIt x y)⟩ := by
  refine spec_go (.cons (f := 49) product_ok (.cons (f := 48) rcmp1_ok (.nil _))) (fn := Tryd.f28) rfl rfl Tryd.func28 rfl false [] _ ?_
  intro A hA args q h
  unfold it2 at h
  split at h
  · rename_i k u w k' u' w'
    obtain ⟨⟨hx, hy⟩, h⟩ := h
    have p1 := prod_le hx.1 hy.2
    have p2 := prod_le hy.1 hx.2
    refine ⟨Nat.le_of_ble_eq_true rfl, ?_⟩
    cbv
    refine ⟨by rw [au hA]; exact ⟨hx.1, hy.2⟩, ?_⟩
    cbv
    refine ⟨by rw [au hA]; exact ⟨hy.1, hx.2⟩, ?_⟩
    cbv
    have hd : (A Int fun _ => cmpD (digs8 (A Int fun _ => u * w' / 18446744073709551616) (A Int fun _ => u * w' % 18446744073709551616)) (digs8 (A Int fun _ => u' * w / 18446744073709551616) (A Int fun _ => u' * w % 18446744073709551616)) 8) = (A Int fun _ => ordI (u * w') (u' * w)) := by
      subst hA
      have p1 : 0 ≤ u * w' ∧ u * w' < 340282366920938463463374607431768211456 := p1
      have p2 : 0 ≤ u' * w ∧ u' * w < 340282366920938463463374607431768211456 := p2
      generalize u * w' = a at *
      generalize u' * w = b at *
      show cmpD (digs8 (a / 18446744073709551616) (a % 18446744073709551616)) (digs8 (b / 18446744073709551616) (b % 18446744073709551616)) 8 = ordI a b
      rw [digs_cmp ⟨by omega, by omega⟩ ⟨by omega, by omega⟩ ⟨by omega, by omega⟩ ⟨by omega, by omega⟩]
      congr 1 <;> omega
    rw [hd]
    repeat' (first | (refine And.intro (by (try simp only [List.length_replicate, Int.zero_tmod, toIs_ii, ii_len, Int.zero_tdiv, w0, hA, nE, shl, shr, std, zE32, zE64, nc, nth_rd', i64w, u32_wrap, p32, p31, p63, w6432, toIs_len, set_toIs, repl_toIs, app_toIs, tos1, tos0, p1, take_toIs, drop_toIs, ieq_iff, ieq_iff', ilt_iff, ilt_iff', ile_iff, ile_iff', gt_iff_lt, ge_iff_le, Bool.not_eq_true', Bool.not_eq_false', List.drop_zero, Nat.sub_zero]); first | done | exact ix ‹_› ‹_› | exact ix (Int.le_refl 0) ‹_› | decide | exact ap4 ‹_› | exact ap8 ‹_› | exact mk4 ‹_› ‹_› | exact mk8 ‹_› ‹_› | exact ix' ‹_› ‹_› | assumption | omega) ?_; cbv) | (split <;> rename_i hz <;> (try simp only [List.length_replicate, Int.zero_tmod, toIs_ii, ii_len, Int.zero_tdiv, w0, hA, nE, shl, shr, std, zE32, zE64, nc, nth_rd', i64w, u32_wrap, p32, p31, p63, w6432, toIs_len, set_toIs, repl_toIs, app_toIs, tos1, tos0, p1, take_toIs, drop_toIs, ieq_iff, ieq_iff', ilt_iff, ilt_iff', ile_iff, ile_iff', gt_iff_lt, ge_iff_le, Bool.not_eq_true', Bool.not_eq_false', List.drop_zero, Nat.sub_zero] at hz) <;> first | contradiction | (exfalso; omega) | (exfalso; have hz2 := hz.symm.trans ‹_ = true›; cases hz2; done) | (exfalso; have hz2 := hz.symm.trans ‹_ = false›; cases hz2; done) | cbv))
    all_goals
      subst hA
      refine fin_int h ?_
      simp only [std, cmpIt, cmpB_eq]
    all_goals simp_all [seq]
  · exact h.elim
end Go.Proofs.YtmndbhgbngkakaaDoor.Z
