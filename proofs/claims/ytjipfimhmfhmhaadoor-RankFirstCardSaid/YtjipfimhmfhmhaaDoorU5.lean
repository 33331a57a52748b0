/- Items over plain data. No condition. -/
import Derived.Test.YtjipfimhmfhmhaaDoorU2
import Derived.Test.YtjipfimhmfhmhaaDoorUA
import Derived.Test.YtjipfimhmfhmhaaDoorUB
namespace Go.Proofs.YtjipfimhmfhmhaaDoor.Z
open Go Go.RowKit Go.Proofs.YtjipfimhmfhmhaaDoor.E Go.Proofs.YtjipfimhmfhmhaaDoor.G Go.Proofs.YtjipfimhmfhmhaaDoor.K Go.Proofs.YtjipfimhmfhmhaaDoor.F Go.Proofs.YtjipfimhmfhmhaaDoor.M Go.Proofs.YtjipfimhmfhmhaaDoor.R
open Go.Proofs.YtjipfimhmfhmhaaDoorW.PrintWords hiding rd
set_option linter.all false

set_option maxRecDepth 100000
set_option maxHeartbeats 4000000
def it1 (g : Lz → It → FV) (A : Lz) (args : List FV) (q : FV → FV → Prop) : Prop :=
  match args with
  | [.agg [.str k, .int .u64 u, .int .u64 w]] => (A _ fun _ => It.ok ⟨k, u, w⟩) ∧ q (g A ⟨k, u, w⟩) .dead
  | _ => False
def it2 (g : Lz → It → It → FV) (A : Lz) (args : List FV) (q : FV → FV → Prop) : Prop :=
  match args with
  | [.agg [.str k, .int .u64 u, .int .u64 w], .agg [.str k', .int .u64 u', .int .u64 w']] => (A _ fun _ => It.ok ⟨k, u, w⟩ ∧ It.ok ⟨k', u', w'⟩) ∧ q (g A ⟨k, u, w⟩ ⟨k', u', w'⟩) .dead
  | _ => False
theorem dChk_eq {k : ByteArray} {u w : Int} (h : It.ok ⟨k, u, w⟩) : dChk [item k u w] = some (.int .i64 (chkIt ⟨k, u, w⟩)) := by
  simp only [dChk, asItem_item h.1 h.2]
  rfl
theorem check_ok : SpecOk EV 20 ⟨false, it1 fun A x => .int .i64 (A _ fun _ => chkIt x)⟩ :=
  (flat2_spec (B := B) (L := LV) (dom := dChk) rfl ⟨_, Tryd.func20, rfl⟩).less fun xs q _ h => by
    unfold it1 at h
    split at h
    · obtain ⟨hx, h⟩ := h
      refine ⟨rfl, .int .i64 (chkIt _), ?_, rfl, h⟩
      exact dChk_eq hx
    · exact h.elim
theorem rcmp_eq {k k' : ByteArray} {u w u' w' : Int} (h : It.ok ⟨k, u, w⟩) (h' : It.ok ⟨k', u', w'⟩) : rcmp k u w k' u' w' = cmpIt ⟨k, u, w⟩ ⟨k', u', w'⟩ := by
  unfold rcmp cmpIt
  rw [full_ord h.1 h'.2 h'.1 h.2]
  rfl
theorem dRank_eq {k k' : ByteArray} {u w u' w' : Int} (h : It.ok ⟨k, u, w⟩) (h' : It.ok ⟨k', u', w'⟩) : dRank [item k u w, item k' u' w'] = some (.int .i64 (cmpIt ⟨k, u, w⟩ ⟨k', u', w'⟩)) := by
  simp only [dRank, asItem_item h.1 h.2, asItem_item h'.1 h'.2, rcmp_eq h h']
theorem cmpIt_ok : SpecOk EV 18 ⟨false, it2 fun A x y => .int .i64 (A _ fun _ => cmpIt x y)⟩ :=
  (flat2_spec (B := B) (L := LV) (dom := dRank) rfl ⟨_, Tryd.func18, rfl⟩).less fun xs q _ h => by
    unfold it2 at h
    split at h
    · obtain ⟨⟨hx, hy⟩, h⟩ := h
      refine ⟨rfl, .int .i64 (cmpIt _ _), ?_, rfl, h⟩
      exact dRank_eq hx hy
    · exact h.elim
def awakeS (A : Lz) (args : List FV) (q : FV → FV → Prop) : Prop :=
  match args with
  | [] => q (.bool true) .dead
  | _ => False
theorem awake_ok : SpecOk EV 14 ⟨false, awakeS⟩ :=
  (flat2_spec (B := B) (L := LV) (dom := dTrue) rfl ⟨_, Tryd.func14, rfl⟩).less fun xs q _ h => by
    unfold awakeS at h
    split at h
    · exact ⟨rfl, _, rfl, rfl, h⟩
    · exact h.elim
theorem may_ok : SpecOk EV 56 ⟨false, it1 fun A x => .bool (A _ fun _ => mayIt x)⟩ := by
  refine spec_go (.nil _) (fn := Tryd.f56) rfl rfl Tryd.func56 rfl false [] _ ?_
  intro A hA args q h
  unfold it1 at h
  split at h
  · obtain ⟨hx, h⟩ := h
    refine ⟨Nat.le_of_ble_eq_true rfl, ?_⟩
    cbv
    repeat' (first | (refine And.intro (by (try simp only [List.length_replicate, Int.zero_tmod, toIs_ii, ii_len, Int.zero_tdiv, w0, hA, nE, shl, shr, std, zE32, zE64, nc, nth_rd', i64w, u32_wrap, p32, p31, p63, w6432, toIs_len, set_toIs, repl_toIs, app_toIs, tos1, tos0, p1, take_toIs, drop_toIs, ieq_iff, ieq_iff', ilt_iff, ilt_iff', ile_iff, ile_iff', gt_iff_lt, ge_iff_le, Bool.not_eq_true', Bool.not_eq_false', List.drop_zero, Nat.sub_zero]); first | done | exact ix ‹_› ‹_› | exact ix (Int.le_refl 0) ‹_› | decide | exact ap4 ‹_› | exact ap8 ‹_› | exact mk4 ‹_› ‹_› | exact mk8 ‹_› ‹_› | exact ix' ‹_› ‹_› | assumption | omega) ?_; cbv) | (split <;> rename_i hz <;> (try simp only [List.length_replicate, Int.zero_tmod, toIs_ii, ii_len, Int.zero_tdiv, w0, hA, nE, shl, shr, std, zE32, zE64, nc, nth_rd', i64w, u32_wrap, p32, p31, p63, w6432, toIs_len, set_toIs, repl_toIs, app_toIs, tos1, tos0, p1, take_toIs, drop_toIs, ieq_iff, ieq_iff', ilt_iff, ilt_iff', ile_iff, ile_iff', gt_iff_lt, ge_iff_le, Bool.not_eq_true', Bool.not_eq_false', List.drop_zero, Nat.sub_zero] at hz) <;> first | contradiction | (exfalso; omega) | (exfalso; have hz2 := hz.symm.trans ‹_ = true›; cases hz2; done) | (exfalso; have hz2 := hz.symm.trans ‹_ = false›; cases hz2; done) | cbv))
    all_goals
      subst hA
      refine fin_bool h ?_
      simp [std, mayIt, hz, ilt, ile]
  · exact h.elim
end Go.Proofs.YtjipfimhmfhmhaaDoor.Z
