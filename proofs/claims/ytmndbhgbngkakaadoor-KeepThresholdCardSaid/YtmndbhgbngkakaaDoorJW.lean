/- keep.add over plain data. No condition. -/
import Derived.Test.YtmndbhgbngkakaaDoorJV
namespace Go.Proofs.YtmndbhgbngkakaaDoor.Z
open Go Go.RowKit Go.Proofs.YtmndbhgbngkakaaDoor.E Go.Proofs.YtmndbhgbngkakaaDoor.G Go.Proofs.YtmndbhgbngkakaaDoor.K Go.Proofs.YtmndbhgbngkakaaDoor.F Go.Proofs.YtmndbhgbngkakaaDoor.M Go.Proofs.YtmndbhgbngkakaaDoor.R
open Go.Proofs.YtmndbhgbngkakaaDoorW.PrintWords hiding rd
set_option linter.all false

set_option maxRecDepth 100000
set_option maxHeartbeats 4000000
/-- What becomes of a row of items to which one is added; it stands behind those ahead of it. -/
def putR (k : Nat) (S : List It) (x : It) (M : List It) : Prop := ∃ r : Nat, isCut x S r ∧ M = (S.take r ++ [x] ++ S.drop r).take (k + 1)
def addR (k : Nat) (L : List It) (x : It) (M : List It) : Prop :=
  ∃ r : Int, isPos x.key L r ∧ ((r < 0 ∧ putR k L x M) ∨ (0 ≤ r ∧ 0 ≤ cmpIt x (gi L r.toNat) ∧ M = L) ∨ (0 ≤ r ∧ cmpIt x (gi L r.toNat) < 0 ∧ putR k (L.take r.toNat ++ L.drop (r.toNat + 1)) x M))
def addRun (A : Lz) (args : List FV) (q : FV → FV → Prop) : Prop :=
  match args with
  | [.int .i64 k, .row (.agg [.str, .int .u64, .int .u64]) l, .agg [.str kk, .int .u64 u, .int .u64 w]] =>
    ∃ (k' : Nat) (L : List It), (k = k' ∧ k' ≤ 1024 ∧ l = its L ∧ (∀ x ∈ L, x.ok) ∧ It.ok ⟨kk, u, w⟩ ∧ L.length ≤ 1100) ∧ ∀ M, addR k' L ⟨kk, u, w⟩ M → q (.row (.agg [.str, .int .u64, .int .u64]) (its M)) .dead
  | _ => False
theorem room_of {l : List FV} (h : l.length ≤ 2000) : room 32 l := by unfold room maxRoom; omega
theorem put_its {l : List FV} {S : List It} {x : It} {m : Nat} (h : l = its S) : l.take m ++ [itF x] ++ l.drop m = its (S.take m ++ [x] ++ S.drop m) := by
  rw [h, its_take, its_drop, its_one, its_app, its_app]
theorem min_its {k : Int} {k' : Nat} {R : List It} (hk : k = k') (hk' : k' ≤ 1024) (hR : R.length ≤ 1200) : (if IntKind.i64.wrap (k + 1) < ((its R).length : Int) then IntKind.i64.wrap (k + 1) else ((its R).length : Int)) = ((min (k' + 1) R.length : Nat) : Int) := by
  rw [its_len, i64w, hk]
  unfold wrap64
  split <;> omega
theorem take_its {R : List It} {k' : Nat} : List.take (((min (k' + 1) R.length : Nat) : Int).toNat - 0) (List.drop 0 (its R)) = its (R.take (k' + 1)) := by
  rw [Int.toNat_natCast, List.drop_zero, Nat.sub_zero, its_take]
  congr 1
  rw [List.take_eq_take_iff]
  omega
theorem add_ok : SpecOk EV 27 ⟨false, addRun⟩ := by
  refine spec_go (.cons (f := 31) clone_item_ok (.cons (f := 43) idxK_ok (.cons (f := 18) cmpIt_ok (.cons (f := 45) del_item_ok (.cons (f := 46) bs_ok (.cons (f := 47) ins_item_ok (.nil _))))))) (fn := Tryd.f27) rfl rfl Tryd.func27 rfl false [] _ ?_
  intro A hA args q h
  unfold addRun at h
  split at h
  · rename_i k l kk u w
    obtain ⟨k', L, ⟨hk, hk', hl, hL, hx, hb⟩, h⟩ := h
    have hll : l.length = L.length := by rw [hl, its_len]
    refine ⟨Nat.le_of_ble_eq_true rfl, ?_⟩
    cbv
    refine ⟨by subst hA; exact fun _ => room_of (by omega), L, ⟨by subst hA; exact hl, hL, by omega⟩, fun r hr => ?_⟩
    have hr' : ∀ n : Nat, r = n → n < L.length ∧ isPos kk L n := fun n e => by
      rcases hr with ⟨e1, _⟩ | ⟨m, e1, h1, h2, h3⟩
      · omega
      · have : n = m := by omega
        subst this
        exact ⟨h1, .inr ⟨n, rfl, h1, h2, h3⟩⟩
    cbv
    split <;> rename_i hz <;> (try simp only [hA, shl, shr, std, nc, wd0, wd1, wd2, wd3] at hz) <;> cbv
    · obtain ⟨n, rfl⟩ : ∃ n : Nat, r = n := ⟨r.toNat, by (try simp only [nc] at *); omega⟩
      obtain ⟨hn, hp⟩ := hr' n rfl
      have e1 := its_key L n
      have e2 := its_u L n
      have e3 := its_w L n
      rw [← hl] at e1 e2 e3
      have ixn : 0 ≤ (n : Int) ∧ (n : Int).toNat < l.length := ⟨Int.natCast_nonneg _, by rw [hll]; exact hn⟩
      have hok : It.ok (gi L n) := hL _ (gi_mem hn)
      refine ⟨by subst hA; exact ixn, by subst hA; simp only [std, Int.toNat_natCast, e1, e2, e3]; exact ⟨hx, hok⟩, ?_⟩
      cbv
      split <;> rename_i hz2 <;> (try simp only [hA, shl, shr, std, nc, wd0, wd1, wd2, wd3] at hz2) <;> cbv
      · subst hA
        have hz3 : 0 ≤ cmpIt ⟨kk, u, w⟩ (gi L n) := by
          have e : ((n : Int)).toNat = n := rfl
          rw [e, e1, e2, e3, it_eta] at hz2
          exact hz2
        have := h L ⟨n, hp, .inr (.inl ⟨Int.natCast_nonneg _, hz3, rfl⟩)⟩
        rw [← hl] at this
        exact this
      · have hz3 : cmpIt ⟨kk, u, w⟩ (gi L n) < 0 := by
          have e : ((n : Int)).toNat = n := rfl
          rw [e, e1, e2, e3, it_eta] at hz2
          omega
        have hS : ∀ x ∈ L.take n ++ L.drop (n + 1), x.ok := fun x hx => by
          rcases List.mem_append.1 hx with hx | hx
          · exact hL x (List.mem_of_mem_take hx)
          · exact hL x (List.mem_of_mem_drop hx)
        have hSl : (L.take n ++ L.drop (n + 1)).length = L.length - 1 := by rw [List.length_append, List.length_take, List.length_drop]; omega
        have hSe : l.take n ++ l.drop (n + 1) = its (L.take n ++ L.drop (n + 1)) := by rw [hl, its_take, its_drop, its_app]
        have hS2 : (List.take (Int.ofNat n).toNat l ++ List.drop ((Int.ofNat n).toNat + 1) l).length = L.length - 1 := (congrArg List.length hSe).trans (by rw [its_len, hSl])
        have hwn : IntKind.i64.wrap ((n : Int) + 1) = (n : Int) + 1 := by rw [i64w]; unfold wrap64; omega
        refine ⟨by subst hA; exact ⟨ixn.1, ixn.2, hwn, by simp only [std, maxRoom]; omega⟩, _, ⟨by subst hA; exact hSe, hS, hx, by omega⟩, fun r2 b2 hcut => ?_⟩
        have hfin : ∀ M, putR k' (L.take n ++ L.drop (n + 1)) ⟨kk, u, w⟩ M → q (.row (.agg [.str, .int .u64, .int .u64]) (its M)) .dead := fun M hM => h M ⟨n, hp, .inr (.inr ⟨Int.natCast_nonneg _, hz3, hM⟩)⟩
        obtain ⟨m, rfl, hm⟩ := hcut
        cbv
        subst hA
        have hR : List.take (Int.ofNat m).toNat (List.take (Int.ofNat n).toNat l ++ List.drop ((Int.ofNat n).toNat + 1) l) ++ [FV.agg [FV.str kk, FV.int IntKind.u64 u, FV.int IntKind.u64 w]] ++ List.drop (Int.ofNat m).toNat (List.take (Int.ofNat n).toNat l ++ List.drop ((Int.ofNat n).toNat + 1) l) = its ((L.take n ++ L.drop (n + 1)).take m ++ [(⟨kk, u, w⟩ : It)] ++ (L.take n ++ L.drop (n + 1)).drop m) := put_its (x := ⟨kk, u, w⟩) (m := m) hSe
        have hRl : ((L.take n ++ L.drop (n + 1)).take m ++ [(⟨kk, u, w⟩ : It)] ++ (L.take n ++ L.drop (n + 1)).drop m).length = (L.take n ++ L.drop (n + 1)).length + 1 := by have := hm.1; simp only [List.length_append, List.length_take, List.length_drop, List.length_cons, List.length_nil] at *; omega
        have hmn := min_its (k := k) (k' := k') (R := (L.take n ++ L.drop (n + 1)).take m ++ [(⟨kk, u, w⟩ : It)] ++ (L.take n ++ L.drop (n + 1)).drop m) hk hk' (by omega)
        simp only [std, hR, hmn]
        have hml : m ≤ (List.take (Int.ofNat n).toNat l ++ List.drop ((Int.ofNat n).toNat + 1) l).length := by have := hm.1; rw [hS2]; omega
        refine ⟨⟨Int.natCast_nonneg _, hml, rfl, by have : (List.take (Int.ofNat n).toNat l ++ List.drop ((Int.ofNat n).toNat + 1) l).length ≤ 1100 := (by rw [hS2]; omega); simp only [maxRoom]; omega⟩, ⟨Int.natCast_nonneg _, by rw [its_len, Int.toNat_natCast]; exact Nat.min_le_right _ _⟩, ?_⟩
        have hq := hfin _ ⟨m, hm, rfl⟩
        rw [← take_its] at hq
        exact hq
    · have hfin : ∀ M, putR k' L ⟨kk, u, w⟩ M → q (.row (.agg [.str, .int .u64, .int .u64]) (its M)) .dead := fun M hM => h M ⟨r, hr, .inl ⟨by omega, hM⟩⟩
      refine ⟨L, ⟨by subst hA; exact hl, hL, hx, by omega⟩, fun r2 b2 hcut => ?_⟩
      obtain ⟨m, rfl, hm⟩ := hcut
      cbv
      subst hA
      have hR : List.take (Int.ofNat m).toNat l ++ [FV.agg [FV.str kk, FV.int IntKind.u64 u, FV.int IntKind.u64 w]] ++ List.drop (Int.ofNat m).toNat l = its (L.take m ++ [(⟨kk, u, w⟩ : It)] ++ L.drop m) := put_its (x := ⟨kk, u, w⟩) (m := m) hl
      have hRl : (L.take m ++ [(⟨kk, u, w⟩ : It)] ++ L.drop m).length = L.length + 1 := by have := hm.1; simp only [List.length_append, List.length_take, List.length_drop, List.length_cons, List.length_nil] at *; omega
      have hmn := min_its (k := k) (k' := k') (R := L.take m ++ [(⟨kk, u, w⟩ : It)] ++ L.drop m) hk hk' (by omega)
      simp only [std, hR, hmn]
      have hml : m ≤ l.length := by have := hm.1; rw [hll]; omega
      refine ⟨⟨Int.natCast_nonneg _, hml, rfl, by have : l.length ≤ 1100 := (by rw [hll]; omega); simp only [maxRoom]; omega⟩, ⟨Int.natCast_nonneg _, by rw [its_len, Int.toNat_natCast]; exact Nat.min_le_right _ _⟩, ?_⟩
      have hq := hfin _ ⟨m, hm, rfl⟩
      rw [← take_its] at hq
      exact hq
  · exact h.elim
end Go.Proofs.YtmndbhgbngkakaaDoor.Z
