/- Rows of items over plain data: is there one that may not be. No condition. -/
import Derived.Test.YtjipfimhmfhmhaaDoorJ1
namespace Go.Proofs.YtjipfimhmfhmhaaDoor.Z
open Go Go.RowKit Go.Proofs.YtjipfimhmfhmhaaDoor.E Go.Proofs.YtjipfimhmfhmhaaDoor.G Go.Proofs.YtjipfimhmfhmhaaDoor.K Go.Proofs.YtjipfimhmfhmhaaDoor.F Go.Proofs.YtjipfimhmfhmhaaDoor.M Go.Proofs.YtjipfimhmfhmhaaDoor.R
open Go.Proofs.YtjipfimhmfhmhaaDoorW.PrintWords hiding rd
set_option linter.all false

set_option maxRecDepth 100000
set_option maxHeartbeats 4000000
def badB (x : It) : Bool := !ieq (chkIt x) 0
theorem sortF_ok : SpecOk EV 53 ⟨false, it1 fun A x => .bool (A _ fun _ => badB x)⟩ := by
  refine spec_go (.cons (f := 20) check_ok (.nil _)) (fn := Tryd.f53) rfl rfl Tryd.func53 rfl false [] _ ?_
  intro A hA args q h
  unfold it1 at h
  split at h
  · rename_i k u w
    obtain ⟨hx, h⟩ := h
    have hx : It.ok ⟨k, u, w⟩ := hx
    refine ⟨Nat.le_of_ble_eq_true rfl, ?_⟩
    cbv
    refine ⟨by rw [au hA]; exact hx, ?_⟩
    subst hA
    exact h
  · exact h.elim
def idxRun (A : Lz) (args : List FV) (q : FV → FV → Prop) : Prop :=
  match args with
  | [.row (.agg [.str, .int .u64, .int .u64]) l, .fn 53 [] []] => ∃ L : List It, (l = its L ∧ (∀ x ∈ L, x.ok) ∧ L.length < 9223372036854775807) ∧ ∀ r : Int, (0 ≤ r ↔ L.any badB = true) → q (.int .i64 r) .dead
  | _ => False
theorem any_gi {p : It → Bool} {L : List It} {i : Nat} (hi : i < L.length) (h : p (gi L i) = true) : L.any p = true := List.any_eq_true.2 ⟨_, gi_mem hi, h⟩
theorem not_any {p : It → Bool} {L : List It} (h : ∀ i, i < L.length → p (gi L i) = false) : L.any p = false := by
  rw [List.any_eq_false]
  intro x hx
  obtain ⟨i, hi, e⟩ := List.mem_iff_getElem.1 hx
  have := h i hi
  rw [gi_at hi, e] at this
  simp [this]
theorem idx_ok : SpecOk EV 78 ⟨false, idxRun⟩ := by
  refine spec_go (.cons (f := 53) sortF_ok (.nil _)) (fn := Tryd.f78) rfl rfl Tryd.func78 rfl false [] _ ?_
  intro A hA args q h
  unfold idxRun at h
  split at h
  · rename_i l
    obtain ⟨L, ⟨hl, hL, hb⟩, h⟩ := h
    have hll : l.length = L.length := by rw [hl, its_len]
    refine ⟨Nat.le_of_ble_eq_true rfl, ?_⟩
    cbv
    refine loop_intro hA [(0, .keep), (1, .keep), (7, .keep), (8, .keep)] (fun n s => ∃ w, s = st [(0, .row (.agg [.str, .int .u64, .int .u64]) l), (1, .fn 53 [] []), (7, .int .i64 (A _ fun _ => (l.length : Int))), (8, .int .i64 w)] [] ∧
        ∃ k : Nat, w = k ∧ n + k = L.length ∧ ∀ i, i < k → badB (gi L i) = false) L.length ?_ ?_
    · cbv
      (iterate 1 apply Exists.intro); refine ⟨?_, ?_⟩; cbv
      exact ⟨0, rfl, rfl, fun i hi => by omega⟩
    · rintro n s ⟨w, rfl, k, hw, hn, hk⟩
      have hw0 : 0 ≤ w ∧ w ≤ l.length := by (try simp only [nc] at *); omega
      have hw1 : w.toNat = k := by rw [hw]; rfl
      have e1 := its_key L k
      have e2 := its_u L k
      have e3 := its_w L k
      rw [← hl, ← hw1] at e1 e2 e3
      have ok : k < L.length → It.ok ⟨((G.nth l w.toNat).cell 0).toS, ((G.nth l w.toNat).cell 1).toI, ((G.nth l w.toNat).cell 2).toI⟩ := fun hk => by
        rw [e1, e2, e3, hw1]; exact hL _ (gi_mem hk)
      cbv
      split <;> rename_i hz <;> (try simp only [List.length_replicate, Int.zero_tmod, toIs_ii, ii_len, Int.zero_tdiv, w0, hA, nE, shl, shr, std, zE32, zE64, nc, nth_rd', i64w, u32_wrap, p32, p31, p63, w6432, toIs_len, set_toIs, repl_toIs, app_toIs, tos1, tos0, p1, take_toIs, drop_toIs, ieq_iff, ieq_iff', ilt_iff, ilt_iff', ile_iff, ile_iff', gt_iff_lt, ge_iff_le, Bool.not_eq_true', Bool.not_eq_false', List.drop_zero, Nat.sub_zero] at hz) <;> cbv
      · have hk1 : k < L.length := by (try simp only [nc] at *); omega
        refine ⟨(by subst hA; (try simp only [std, nc] at *); omega), (au hA _).symm ▸ by subst hA; exact ok hk1, ?_⟩
        cbv
        split <;> rename_i hz <;> (try simp only [List.length_replicate, Int.zero_tmod, toIs_ii, ii_len, Int.zero_tdiv, w0, hA, nE, shl, shr, std, zE32, zE64, nc, nth_rd', i64w, u32_wrap, p32, p31, p63, w6432, toIs_len, set_toIs, repl_toIs, app_toIs, tos1, tos0, p1, take_toIs, drop_toIs, ieq_iff, ieq_iff', ilt_iff, ilt_iff', ile_iff, ile_iff', gt_iff_lt, ge_iff_le, Bool.not_eq_true', Bool.not_eq_false', List.drop_zero, Nat.sub_zero] at hz) <;> cbv
        all_goals rw [e1, e2, e3, hw1, it_eta] at hz
        · refine h _ ?_
          subst hA
          have := any_gi hk1 hz
          simp only [this, iff_true]
          exact hw0.1
        · refine ⟨n - 1, by (try simp only [nc] at *); omega, ?_⟩
          cbv
          (iterate 1 apply Exists.intro); refine ⟨?_, ?_⟩; cbv
          subst hA
          refine ⟨k + 1, wsucc hw (by omega), by omega, fun i hi => ?_⟩
          by_cases e : i = k
          · subst e; exact hz
          · exact hk i (by omega)
      · refine h _ ?_
        have hk1 : k = L.length := by (try simp only [nc] at *); omega
        have := not_any (p := badB) (fun i hi => hk i (by omega))
        simp only [this, Bool.false_eq_true, iff_false]
        decide
  · exact h.elim
def conRun (A : Lz) (args : List FV) (q : FV → FV → Prop) : Prop :=
  match args with
  | [.row (.agg [.str, .int .u64, .int .u64]) l, .fn 53 [] []] => ∃ L : List It, (l = its L ∧ (∀ x ∈ L, x.ok) ∧ L.length < 9223372036854775807) ∧ q (.bool (A _ fun _ => L.any badB)) .dead
  | _ => False
theorem con_ok : SpecOk EV 52 ⟨false, conRun⟩ := by
  refine spec_go (.cons (f := 78) idx_ok (.nil _)) (fn := Tryd.f52) rfl rfl Tryd.func52 rfl false [] _ ?_
  intro A hA args q h
  unfold conRun at h
  split at h
  · rename_i l
    obtain ⟨L, hh, h⟩ := h
    refine ⟨Nat.le_of_ble_eq_true rfl, ?_⟩
    cbv
    refine ⟨L, hh, fun r hr => ?_⟩
    cbv
    subst hA
    refine fin_bool h ?_
    simp only [std, ile, hr, Bool.decide_eq_true]
  · exact h.elim
end Go.Proofs.YtjipfimhmfhmhaaDoor.Z
