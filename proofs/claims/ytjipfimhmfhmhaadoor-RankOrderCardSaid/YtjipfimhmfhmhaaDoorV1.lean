/- The program's naturals over plain data. No condition. -/
import Derived.Test.YtjipfimhmfhmhaaDoorZV
import Derived.Test.YtjipfimhmfhmhaaDoorKAll
namespace Go.Proofs.YtjipfimhmfhmhaaDoor.Z
open Go Go.RowKit Go.Proofs.YtjipfimhmfhmhaaDoor.E Go.Proofs.YtjipfimhmfhmhaaDoor.G Go.Proofs.YtjipfimhmfhmhaaDoor.K Go.Proofs.YtjipfimhmfhmhaaDoor.F
open Go.Proofs.YtjipfimhmfhmhaaDoorW.PrintWords hiding rd
set_option linter.all false

set_option maxRecDepth 100000
set_option maxHeartbeats 4000000
/-- nat.order, of what its plain form tells. -/
def orderRun (A : Lz) (args : List FV) (q : FV → FV → Prop) : Prop :=
  match args with
  | [.row (.int .u32) a, .row (.int .u32) b] => ∃ k r, nat_order.f k (toIs a) (toIs b) = some r ∧ q (.int .i64 r) .dead
  | _ => False
theorem order_ok : SpecOk EV 81 ⟨false, orderRun⟩ := by
  refine spec_go (.nil _) (fn := Tryd.f81) rfl rfl Tryd.func81 rfl false [] _ ?_
  intro A hA args q h
  unfold orderRun at h
  split at h
  · rename_i a b
    obtain ⟨k, r, hf, h⟩ := h
    refine ⟨Nat.le_of_ble_eq_true rfl, ?_⟩
    unfold nat_order.f at hf
    simp only [toIs_len] at hf
    cbv
    split
    · rename_i h1
      cbv
      subst hA
      simp [std, nc] at h1
      rw [if_neg (by omega)] at hf
      cases hf
      refine fin_int h ?_
      simp only [std, i64w, nc, mn, mx]
      generalize wrap64 ((a.length : Int) - b.length) = z
      unfold wrap64
      by_cases g1 : z < 0
      · simp [g1]
      · simp only [g1, if_false]
        by_cases g2 : 1 < z
        · simp [g2]
        · simp only [g2, if_false]; omega
    · rename_i h1
      refine loop_intro hA [(0, .keep), (1, .keep), (5, .keep)] (fun n s => ∃ i, s = st [(0, .row (.int .u32) a), (1, .row (.int .u32) b), (5, .int .i64 i)] [] ∧ nat_order.l0 n (toIs a) (toIs b) i = some r) k ?_ ?_
      · cbv
        refine ⟨_, rfl, ?_⟩
        subst hA
        simp [std, nc] at h1
        rw [if_pos (by omega)] at hf
        simpa [std, i64w] using hf
      · rintro n s ⟨i, rfl, hi⟩
        cbv
        split
        · rename_i h2
          have h2' : 0 ≤ i := by subst hA; simpa [std, nc] using h2
          cases n with
          | zero => cases hi
          | succ n =>
            unfold nat_order.l0 at hi
            rw [if_pos h2', if_pos h2'] at hi
            simp only [toIs_len] at hi
            split at hi
            · rename_i h3
              split at hi
              · rename_i h4
                cbv
                refine ⟨by subst hA; exact ⟨h2', (Int.toNat_lt h2').2 h3⟩, by subst hA; exact ⟨h2', (Int.toNat_lt h2').2 h4⟩, ?_⟩
                split
                · rename_i h5
                  cbv
                  subst hA
                  simp [std, nc, nth_rd'] at h5
                  rw [if_pos h5] at hi
                  cases hi
                  exact h
                · rename_i h5
                  cbv
                  refine ⟨by subst hA; exact ⟨h2', (Int.toNat_lt h2').2 h3⟩, by subst hA; exact ⟨h2', (Int.toNat_lt h2').2 h4⟩, ?_⟩
                  split
                  · rename_i h6
                    cbv
                    subst hA
                    simp [std, nc, nth_rd'] at h5 h6
                    rw [if_neg (by omega), if_pos (by omega)] at hi
                    cases hi
                    exact h
                  · rename_i h6
                    cbv
                    refine ⟨n, Nat.lt_succ_self n, ?_⟩
                    cbv
                    refine ⟨_, rfl, ?_⟩
                    subst hA
                    simp [std, nc, nth_rd'] at h5 h6
                    rw [if_neg (by omega), if_neg (by omega)] at hi
                    simpa [std, nc, i64w] using hi
              · cases hi
            · cases hi
        · rename_i h2
          cbv
          subst hA
          simp [std, nc] at h2
          cases n with
          | zero => cases hi
          | succ n =>
            unfold nat_order.l0 at hi
            rw [if_neg (by omega)] at hi
            cases hi
            exact h
  · exact h.elim
end Go.Proofs.YtjipfimhmfhmhaaDoor.Z
