/- Several texts of one claim in one file: YtmndbhgbngkakaaDoorJX, YtmndbhgbngkakaaDoorJY, YtmndbhgbngkakaaDoorKA, YtmndbhgbngkakaaDoorKB. No condition. -/
import Derived.Test.YtmndbhgbngkakaaDoorJW
import Derived.Test.YtmndbhgbngkakaaDoorJT
import Derived.Test.YtmndbhgbngkakaaDoorU6
section
/- keep.fits, Add, Cut, Sample over plain data. No condition. -/
namespace Go.Proofs.YtmndbhgbngkakaaDoor.Z
open Go Go.RowKit Go.Proofs.YtmndbhgbngkakaaDoor.E Go.Proofs.YtmndbhgbngkakaaDoor.G Go.Proofs.YtmndbhgbngkakaaDoor.K Go.Proofs.YtmndbhgbngkakaaDoor.F Go.Proofs.YtmndbhgbngkakaaDoor.M Go.Proofs.YtmndbhgbngkakaaDoor.R
open Go.Proofs.YtmndbhgbngkakaaDoorW.PrintWords hiding rd
set_option linter.all false

set_option maxRecDepth 100000
set_option maxHeartbeats 4000000
theorem right_facts {k : Int} {L : List It} (h : rightB k L = true) : (1 ≤ k ∧ k ≤ 1024) ∧ (L.length : Int) ≤ k + 1 ∧ ∀ j, j < L.length → rightP L j := of_decide_eq_true h
theorem right_nat {k : Int} {L : List It} (h : rightB k L = true) : ∃ n : Nat, k = n ∧ k.toNat = n ∧ n ≤ 1024 ∧ 1 ≤ n ∧ L.length ≤ n + 1 := by
  obtain ⟨⟨h1, h2⟩, h3, _⟩ := right_facts h
  exact ⟨k.toNat, by omega, rfl, by omega, by omega, by omega⟩
def kAddRun (A : Lz) (args : List FV) (q : FV → FV → Prop) : Prop :=
  match args with
  | [.int .i64 k, .row (.agg [.str, .int .u64, .int .u64]) l, .agg [.str kk, .int .u64 u, .int .u64 w]] =>
    ∃ L : List It, (l = its L ∧ (∀ x ∈ L, x.ok) ∧ It.ok ⟨kk, u, w⟩ ∧ L.length < 4611686018427387904) ∧
      (rightB k L = false → q (.tup [.row (.agg [.str, .int .u64, .int .u64]) (its L), .int .i64 1]) .dead) ∧
      (rightB k L = true → chkIt ⟨kk, u, w⟩ ≠ 0 → q (.tup [.row (.agg [.str, .int .u64, .int .u64]) (its L), .int .i64 (chkIt ⟨kk, u, w⟩)]) .dead) ∧
      (rightB k L = true → chkIt ⟨kk, u, w⟩ = 0 → ∀ M, addR k.toNat L ⟨kk, u, w⟩ M → q (.tup [.row (.agg [.str, .int .u64, .int .u64]) (its M), .int .i64 0]) .dead)
  | _ => False
theorem kAdd_ok : SpecOk EV 17 ⟨false, kAddRun⟩ := by
  refine spec_go (.cons (f := 14) kright_ok (.cons (f := 11) check_ok (.cons (f := 27) add_ok (.nil _)))) (fn := Tryd.f17) rfl rfl Tryd.func17 rfl false [] _ ?_
  intro A hA args q h
  unfold kAddRun at h
  split at h
  · rename_i k l kk u w
    obtain ⟨L, ⟨hl, hL, hx, hb⟩, h1, h2, h3⟩ := h
    refine ⟨Nat.le_of_ble_eq_true rfl, ?_⟩
    cbv
    refine ⟨L, ⟨hl, hL, hb⟩, ?_⟩
    cbv
    split <;> rename_i hz <;> cbv
    · subst hA
      have hz : (!(rightB k L)) = true := hz
      have := h1 (by simpa using hz)
      rw [← hl] at this
      exact this
    · have hr : rightB k L = true := by subst hA; have hz : (!(rightB k L)) = false := hz; simpa using hz
      obtain ⟨kn, hkn, hkt, hk1, hk2, hlen⟩ := right_nat hr
      refine ⟨by rw [au hA]; exact hx, ?_⟩
      cbv
      split <;> rename_i hz2 <;> cbv
      · subst hA
        have hz2 : (!ieq (chkIt ⟨kk, u, w⟩) 0) = true := hz2
        have := h2 hr (by simpa [ieq] using hz2)
        rw [← hl] at this
        exact this
      · refine ⟨kn, L, ⟨hkn, hk1, hl, hL, hx, Nat.le_trans hlen (by omega)⟩, fun M hM => ?_⟩
        cbv
        subst hA
        have hz2 : (!ieq (chkIt ⟨kk, u, w⟩) 0) = false := hz2
        have := h3 hr (by simpa [ieq] using hz2) M (by rw [hkt]; exact hM)
        cases M <;> exact this
  · exact h.elim
end Go.Proofs.YtmndbhgbngkakaaDoor.Z
end
section
/- keep.Merge over plain data. No condition. -/
namespace Go.Proofs.YtmndbhgbngkakaaDoor.Z
open Go Go.RowKit Go.Proofs.YtmndbhgbngkakaaDoor.E Go.Proofs.YtmndbhgbngkakaaDoor.G Go.Proofs.YtmndbhgbngkakaaDoor.K Go.Proofs.YtmndbhgbngkakaaDoor.F Go.Proofs.YtmndbhgbngkakaaDoor.M Go.Proofs.YtmndbhgbngkakaaDoor.R
open Go.Proofs.YtmndbhgbngkakaaDoorW.PrintWords hiding rd
set_option linter.all false

set_option maxRecDepth 100000
set_option maxHeartbeats 4000000
theorem addR_ok {k : Nat} {L M : List It} {x : It} (h : addR k L x M) (hL : ∀ x ∈ L, x.ok) (hx : x.ok) : (∀ x ∈ M, x.ok) ∧ (M.length ≤ k + 1 ∨ M.length ≤ L.length) := by
  have put : ∀ S : List It, (∀ x ∈ S, x.ok) → putR k S x M → (∀ x ∈ M, x.ok) ∧ (M.length ≤ k + 1 ∨ M.length ≤ L.length) := fun S hS ⟨r, _, e⟩ => by
    subst e
    refine ⟨fun y hy => ?_, .inl (by rw [List.length_take]; omega)⟩
    have := List.mem_of_mem_take hy
    simp only [List.mem_append, List.mem_singleton] at this
    rcases this with (h | h) | h
    · exact hS y (List.mem_of_mem_take h)
    · rw [h]; exact hx
    · exact hS y (List.mem_of_mem_drop h)
  obtain ⟨r, _, ⟨_, h⟩ | ⟨_, _, h⟩ | ⟨_, _, h⟩⟩ := h
  · exact put L hL h
  · subst h; exact ⟨hL, .inr (Nat.le_refl _)⟩
  · exact put _ (fun y hy => by
      rcases List.mem_append.1 hy with h | h
      · exact hL y (List.mem_of_mem_take h)
      · exact hL y (List.mem_of_mem_drop h)) h
end Go.Proofs.YtmndbhgbngkakaaDoor.Z
end
section
/- keep.Cut, Sample over plain data. No condition. -/
namespace Go.Proofs.YtmndbhgbngkakaaDoor.Z
open Go Go.RowKit Go.Proofs.YtmndbhgbngkakaaDoor.E Go.Proofs.YtmndbhgbngkakaaDoor.G Go.Proofs.YtmndbhgbngkakaaDoor.K Go.Proofs.YtmndbhgbngkakaaDoor.F Go.Proofs.YtmndbhgbngkakaaDoor.M Go.Proofs.YtmndbhgbngkakaaDoor.R
open Go.Proofs.YtmndbhgbngkakaaDoorW.PrintWords hiding rd
set_option linter.all false

set_option maxRecDepth 100000
set_option maxHeartbeats 4000000
theorem take_its0 {R : List It} {n : Nat} : List.take (((min n R.length : Nat) : Int).toNat - 0) (List.drop 0 (its R)) = its (R.take n) := by
  rw [Int.toNat_natCast, List.drop_zero, Nat.sub_zero, its_take]
  congr 1
  rw [List.take_eq_take_iff]
  omega
theorem min_its0 {a : Int} {n : Nat} {R : List It} (ha : a = n) : (if a < ((its R).length : Int) then a else ((its R).length : Int)) = ((min n R.length : Nat) : Int) := by
  rw [its_len, ha]
  split <;> omega
def kSampleRun (A : Lz) (args : List FV) (q : FV → FV → Prop) : Prop :=
  match args with
  | [.int .i64 k, .row (.agg [.str, .int .u64, .int .u64]) l] =>
    ∃ L : List It, (l = its L ∧ (∀ x ∈ L, x.ok) ∧ L.length < 4611686018427387904) ∧
      (rightB k L = false → q .nils .dead) ∧
      (rightB k L = true → q (.row (.agg [.str, .int .u64, .int .u64]) (its (L.take k.toNat))) .dead)
  | _ => False
theorem kSample_ok : SpecOk EV 22 ⟨false, kSampleRun⟩ := by
  refine spec_go (.cons (f := 14) kright_ok (.cons (f := 31) clone_item_ok (.nil _))) (fn := Tryd.f22) rfl rfl Tryd.func22 rfl false [] _ ?_
  intro A hA args q h
  unfold kSampleRun at h
  split at h
  · rename_i k l
    obtain ⟨L, ⟨hl, hL, hb⟩, h1, h2⟩ := h
    refine ⟨Nat.le_of_ble_eq_true rfl, ?_⟩
    cbv
    refine ⟨L, ⟨hl, hL, hb⟩, ?_⟩
    cbv
    split <;> rename_i hz <;> cbv
    · subst hA
      have hz : (!(rightB k L)) = true := hz
      simp at hz
      exact h1 hz
    · have hr : rightB k L = true := by subst hA; have hz : (!(rightB k L)) = false := hz; simpa using hz
      obtain ⟨kn, hkn, hkt, hk1, hk2, hlen⟩ := right_nat hr
      subst hA
      subst hl
      have hmn := min_its0 (R := L) hkn
      change (0 ≤ (if k < ((its L).length : Int) then k else ((its L).length : Int)) ∧ (if k < ((its L).length : Int) then k else ((its L).length : Int)).toNat ≤ (its L).length) ∧ (List.take ((if k < ((its L).length : Int) then k else ((its L).length : Int)).toNat - 0) (List.drop 0 (its L)) ≠ [] → room 32 (List.take ((if k < ((its L).length : Int) then k else ((its L).length : Int)).toNat - 0) (List.drop 0 (its L)))) ∧ q (.row (.agg [.str, .int .u64, .int .u64]) (List.take ((if k < ((its L).length : Int) then k else ((its L).length : Int)).toNat - 0) (List.drop 0 (its L)))) .dead
      rw [hmn]
      refine ⟨⟨Int.natCast_nonneg _, by rw [its_len, Int.toNat_natCast]; exact Nat.min_le_right _ _⟩, fun _ => room_of ?_, ?_⟩
      · rw [take_its0, its_len, List.length_take]; exact Nat.le_trans (Nat.min_le_right _ _) (Nat.le_trans hlen (by omega))
      · have := h2 hr
        rw [hkt, ← take_its0] at this
        exact this
  · exact h.elim
end Go.Proofs.YtmndbhgbngkakaaDoor.Z
end
section
/- keep.Threshold over plain data. No condition. -/
namespace Go.Proofs.YtmndbhgbngkakaaDoor.Z
open Go Go.RowKit Go.Proofs.YtmndbhgbngkakaaDoor.E Go.Proofs.YtmndbhgbngkakaaDoor.G Go.Proofs.YtmndbhgbngkakaaDoor.K Go.Proofs.YtmndbhgbngkakaaDoor.F Go.Proofs.YtmndbhgbngkakaaDoor.M Go.Proofs.YtmndbhgbngkakaaDoor.R
open Go.Proofs.YtmndbhgbngkakaaDoorW.PrintWords hiding rd
set_option linter.all false

set_option maxRecDepth 100000
set_option maxHeartbeats 4000000
def kThrRun (A : Lz) (args : List FV) (q : FV → FV → Prop) : Prop :=
  match args with
  | [.int .i64 k, .row (.agg [.str, .int .u64, .int .u64]) l] =>
    ∃ L : List It, (l = its L ∧ (∀ x ∈ L, x.ok) ∧ L.length < 4611686018427387904) ∧
      (¬ (rightB k L = true ∧ k < L.length) → q (.tup [.agg [.row (.int .u32) [], .row (.int .u32) []], .bool false]) .dead) ∧
      (rightB k L = true → k < L.length → q (.tup [.agg [.row (.int .u32) (rkN (gi L k.toNat)), .row (.int .u32) (rkD (gi L k.toNat))], .bool true]) .dead)
  | _ => False
theorem kThr_ok : SpecOk EV 21 ⟨false, kThrRun⟩ := by
  refine .fit [.agg [.row (.int .u32), .row (.int .u32)]] (spec_go (.cons (f := 14) kright_ok (.cons (f := 23) rank_ok (.nil _))) (fn := Tryd.f21) rfl rfl Tryd.func21 rfl false [] _ ?_)
  rintro A hA args q0 ⟨hw, q, hq, h⟩
  unfold kThrRun at h
  split at h
  · rename_i k l
    obtain ⟨L, ⟨hl, hL, hb⟩, h1, h2⟩ := h
    have hll : l.length = L.length := by rw [hl, its_len]
    refine ⟨Nat.le_of_ble_eq_true rfl, ?_⟩
    cbv
    refine ⟨L, ⟨hl, hL, hb⟩, ?_⟩
    cbv
    split <;> rename_i hz <;> cbv
    · refine hq _ _ ?_
      subst hA
      have hz : (!(rightB k L)) = true := hz
      simp at hz
      have := h1 fun h => by rw [hz] at h; cases h.1
      exact this
    · have hr : rightB k L = true := by subst hA; have hz : (!(rightB k L)) = false := hz; simpa using hz
      obtain ⟨kn, hkn, hkt, hk1, hk2, hlen⟩ := right_nat hr
      have e1 := its_key L kn
      have e2 := its_u L kn
      have e3 := its_w L kn
      rw [← hl, ← hkt] at e1 e2 e3
      split <;> rename_i hz2 <;> (try simp only [hA, shl, shr, std, nc, wd0, wd1, wd2, wd3] at hz2) <;> cbv
      · refine hq _ _ ?_
        subst hA
        have := h1 fun h => by have := h.2; rw [← hll] at this; (try simp only [nc] at *); omega
        exact this
      · have hk : k < (L.length : Int) := by (try simp only [nc] at *); omega
        have hkl : kn < L.length := by omega
        refine ⟨by subst hA; exact ⟨by omega, by rw [hkt, hll]; exact hkl⟩, by rw [au hA]; subst hA; show It.ok ⟨((G.nth l k.toNat).cell 0).toS, ((G.nth l k.toNat).cell 1).toI, ((G.nth l k.toNat).cell 2).toI⟩; rw [e1, e2, e3, it_eta, hkt]; exact hL _ (gi_mem hkl), ?_⟩
        cbv
        refine hq _ _ ?_
        subst hA
        have := h2 hr hk
        have e : (⟨((G.nth l k.toNat).cell 0).toS, ((G.nth l k.toNat).cell 1).toI, ((G.nth l k.toNat).cell 2).toI⟩ : It) = gi L k.toNat := by rw [e1, e2, e3]
        rw [← e] at this
        exact this
  · exact h.elim
end Go.Proofs.YtmndbhgbngkakaaDoor.Z
end
