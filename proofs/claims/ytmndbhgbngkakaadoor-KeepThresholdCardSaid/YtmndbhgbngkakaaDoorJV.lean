/- keep.add: the place of an item. No condition. -/
import Derived.Test.YtmndbhgbngkakaaDoorJU
import Derived.Test.YtmndbhgbngkakaaDoorKX
namespace Go.Proofs.YtmndbhgbngkakaaDoor.Z
open Go Go.RowKit Go.Proofs.YtmndbhgbngkakaaDoor.E Go.Proofs.YtmndbhgbngkakaaDoor.G Go.Proofs.YtmndbhgbngkakaaDoor.K Go.Proofs.YtmndbhgbngkakaaDoor.F Go.Proofs.YtmndbhgbngkakaaDoor.M Go.Proofs.YtmndbhgbngkakaaDoor.R
open Go.Proofs.YtmndbhgbngkakaaDoorW.PrintWords hiding rd
set_option linter.all false

set_option maxRecDepth 100000
set_option maxHeartbeats 4000000
theorem wmidK {a b : Int} {p q r : Nat} (h : a = p) (h' : b = q) (hk : p + q < 9223372036854775808) (hr : (p + q) / 2 = r) : IntKind.i64.wrap (IntKind.u64.wrap (IntKind.i64.wrap (a + b)) / 2 ^ min (Int.toNat 1) (IntKind.bits .u64)) = (r : Int) := by
  rw [p2, wmid h h' hk, hr]
/-- Where this item may stand. -/
def isCut (x : It) (L : List It) (r : Nat) : Prop := r ≤ L.length ∧ (0 < r → cmpIt (gi L (r - 1)) x < 0) ∧ (r < L.length → ¬ cmpIt (gi L r) x < 0)
def bsRun (A : Lz) (args : List FV) (q : FV → FV → Prop) : Prop :=
  match args with
  | [.row (.agg [.str, .int .u64, .int .u64]) l, .agg [.str k, .int .u64 u, .int .u64 w], .fn 18 [] []] =>
    ∃ L : List It, (l = its L ∧ (∀ x ∈ L, x.ok) ∧ It.ok ⟨k, u, w⟩ ∧ L.length < 4611686018427387904) ∧ ∀ (r : Int) (b : Bool), (∃ n : Nat, r = n ∧ isCut ⟨k, u, w⟩ L n) → q (.tup [.int .i64 r, .bool b]) .dead
  | _ => False
theorem bs_ok : SpecOk EV 46 ⟨false, bsRun⟩ := by
  refine spec_go (.cons (f := 18) cmpIt_ok (.nil _)) (fn := Tryd.f46) rfl rfl Tryd.func46 rfl false [] _ ?_
  intro A hA args q h
  unfold bsRun at h
  split at h
  · rename_i l k u w
    obtain ⟨L, ⟨hl, hL, hx, hb⟩, h⟩ := h
    have hll : l.length = L.length := by rw [hl, its_len]
    refine ⟨Nat.le_of_ble_eq_true rfl, ?_⟩
    cbv
    refine loop_intro hA [(0, .keep), (2, .keep), (4, .box), (8, .keep), (9, .keep), (10, .keep)] (fun n s => ∃ a b, s = st [(0, .row (.agg [.str, .int .u64, .int .u64]) l), (2, .fn 18 [] []), (4, .ptr 4 0 0), (8, .int .i64 (A _ fun _ => (l.length : Int))), (9, .int .i64 a), (10, .int .i64 b)] [(4, ⟨0, true, .box [.str k, .int .u64 u, .int .u64 w]⟩)] ∧
        ∃ s e : Nat, a = s ∧ b = e ∧ s ≤ e ∧ e ≤ L.length ∧ n = e - s ∧ (0 < s → cmpIt (gi L (s - 1)) ⟨k, u, w⟩ < 0) ∧ (e < L.length → ¬ cmpIt (gi L e) ⟨k, u, w⟩ < 0)) L.length ?_ ?_
    · cbv
      (iterate 2 apply Exists.intro); refine ⟨?_, ?_⟩; cbv
      subst hA
      exact ⟨0, L.length, rfl, by simp [std, hll], by omega, by omega, by omega, fun h => absurd h (by omega), fun h => absurd h (by omega)⟩
    · rintro n s ⟨a, b, rfl, s, e, ha, hb', hse, he, hn, h1, h2⟩
      cbv
      split <;> rename_i hz <;> (try simp only [hA, shl, shr, std, nc, wd0, wd1, wd2, wd3] at hz) <;> cbv
      · have hlt : s < e := by (try simp only [nc] at *); omega
        have hc : (s + e) / 2 < L.length := by omega
        have ew := wmidK ha hb' (by omega) (rfl : (s + e) / 2 = (s + e) / 2)
        have tw := toN ew
        have ixw : 0 ≤ (IntKind.i64.wrap (IntKind.u64.wrap (IntKind.i64.wrap (a + b)) / 2 ^ min (Int.toNat 1) (IntKind.bits .u64))) ∧ (IntKind.i64.wrap (IntKind.u64.wrap (IntKind.i64.wrap (a + b)) / 2 ^ min (Int.toNat 1) (IntKind.bits .u64))).toNat < l.length := ⟨by rw [ew]; omega, by rw [tw, hll]; exact hc⟩
        have ews := wsucc ew (by omega)
        have e1 := its_key L (IntKind.i64.wrap (IntKind.u64.wrap (IntKind.i64.wrap (a + b)) / 2 ^ min (Int.toNat 1) (IntKind.bits .u64))).toNat
        have e2 := its_u L (IntKind.i64.wrap (IntKind.u64.wrap (IntKind.i64.wrap (a + b)) / 2 ^ min (Int.toNat 1) (IntKind.bits .u64))).toNat
        have e3 := its_w L (IntKind.i64.wrap (IntKind.u64.wrap (IntKind.i64.wrap (a + b)) / 2 ^ min (Int.toNat 1) (IntKind.bits .u64))).toNat
        rw [← hl, tw] at e1 e2 e3
        refine ⟨by subst hA; exact (by decide : (0 : Int) ≤ 1), by subst hA; exact ixw, by subst hA; simp only [std, tw, e1, e2, e3]; exact ⟨hL _ (gi_mem hc), hx⟩, ?_⟩
        cbv
        split <;> rename_i hz <;> (try simp only [hA, shl, shr, std, nc, wd0, wd1, wd2, wd3] at hz) <;> (try simp only [← i64w] at hz) <;> cbv
        all_goals try rw [tw] at hz
        all_goals try rw [e1, e2, e3, it_eta] at hz
        · refine ⟨e - ((s + e) / 2 + 1), by omega, ?_⟩
          cbv
          (iterate 2 apply Exists.intro); refine ⟨?_, ?_⟩; cbv
          subst hA
          exact ⟨(s + e) / 2 + 1, e, ews, hb', by omega, he, rfl, fun _ => hz, h2⟩
        · refine ⟨(s + e) / 2 - s, by omega, ?_⟩
          cbv
          (iterate 2 apply Exists.intro); refine ⟨?_, ?_⟩; cbv
          subst hA
          exact ⟨s, (s + e) / 2, ha, ew, by omega, by omega, rfl, h1, fun _ => hz⟩
      · have hse : e = s := by (try simp only [nc] at *); omega
        subst hse
        have hfin : ∃ n : Nat, a = n ∧ isCut ⟨k, u, w⟩ L n := ⟨e, ha, he, h1, h2⟩
        have e1 := its_key L a.toNat
        have e2 := its_u L a.toNat
        have e3 := its_w L a.toNat
        rw [← hl] at e1 e2 e3
        split <;> rename_i hz <;> (try simp only [hA, shl, shr, std, nc, wd0, wd1, wd2, wd3] at hz) <;> cbv
        · have hk : e < L.length := by (try simp only [nc] at *); omega
          have ixa : 0 ≤ a ∧ a.toNat < l.length := ⟨by rw [ha]; exact Int.natCast_nonneg _, by rw [toN ha, hll]; exact hk⟩
          have hok : It.ok (gi L a.toNat) := hL _ (gi_mem (by rw [toN ha]; exact hk))
          refine ⟨by subst hA; exact ixa, by subst hA; simp only [std, e1, e2, e3]; exact ⟨hok, hx⟩, ?_⟩
          cbv
          exact h _ _ hfin
        · exact h _ _ hfin
  · exact h.elim
end Go.Proofs.YtmndbhgbngkakaaDoor.Z
