/- Items are sorted: by the program, and by the document. No condition. -/
import Derived.Test.YtjipfimhmfhmhaaDoorJ7
namespace Go.Proofs.YtjipfimhmfhmhaaDoor.Z
open Go Go.RowKit Go.Proofs.YtjipfimhmfhmhaaDoor.E Go.Proofs.YtjipfimhmfhmhaaDoor.G Go.Proofs.YtjipfimhmfhmhaaDoor.K Go.Proofs.YtjipfimhmfhmhaaDoor.F Go.Proofs.YtjipfimhmfhmhaaDoor.M Go.Proofs.YtjipfimhmfhmhaaDoor.R
open Go.Proofs.YtjipfimhmfhmhaaDoorW.PrintWords hiding rd
set_option linter.all false

set_option maxRecDepth 100000
set_option maxHeartbeats 4000000
theorem gs_ins {x : Gi} : ∀ {L : List Gi}, gs (insL cG x L) = insL cmpIt x.1 (gs L)
  | [] => rfl
  | y :: L => by
    unfold insL
    show gs (if cG y x < 0 then y :: insL cG x L else x :: y :: L) = if cmpIt y.1 x.1 < 0 then y.1 :: insL cmpIt x.1 (gs L) else x.1 :: y.1 :: gs L
    have e : cG y x = cmpIt y.1 x.1 := rfl
    rw [e]
    split
    · show y.1 :: gs (insL cG x L) = _
      rw [gs_ins]
    · rfl
theorem gs_srt : ∀ (L : List Gi), gs (srt cG L) = srt cmpIt (gs L)
  | [] => rfl
  | x :: L => by rw [srt, gs_ins, gs_srt L]; rfl
/-- The program's answer. -/
def sortI (L : List It) : List It := if L.any badB then [] else srt cmpIt L
theorem any_may {L : List It} (hL : ∀ x ∈ L, x.ok) : L.any badB = !L.all mayIt := by
  induction L with
  | nil => rfl
  | cons x L ih =>
    have h1 := may_chk (hL x (List.mem_cons_self ..))
    rw [List.any_cons, List.all_cons, ih fun y hy => hL y (List.mem_cons_of_mem _ hy), Bool.not_and]
    congr 1
    rw [h1]; unfold badB ieq; rfl
theorem gs_may {L : List It} (hL : ∀ x ∈ L, x.ok) (h : L.all mayIt = true) : ∃ M : List Gi, L = gs M := gs_of fun x hx => by
  refine ⟨hL x hx, ?_⟩
  have := List.all_eq_true.1 h x hx
  unfold mayIt at this
  simp only [Bool.and_eq_true, decide_eq_true_eq] at this
  exact this.2
def sortRun (A : Lz) (args : List FV) (q : FV → FV → Prop) : Prop :=
  match args with
  | [.row (.agg [.str, .int .u64, .int .u64]) l] => ∃ L : List It, (l = its L ∧ (∀ x ∈ L, x.ok) ∧ L.length < 1099511627776) ∧ q (.row (.agg [.str, .int .u64, .int .u64]) (A _ fun _ => its (sortI L))) .dead
  | _ => False
theorem sort_ok : SpecOk EV 23 ⟨false, sortRun⟩ := by
  refine .fit [.row (.agg [.str, .int .u64, .int .u64])] (spec_go (.cons (f := 52) con_ok (.cons (f := 54) clone_item_ok (.cons (f := 55) ssf_ok (.nil _)))) (fn := Tryd.f23) rfl rfl Tryd.func23 rfl false [] _ ?_)
  rintro A hA args q0 ⟨hw, q, hq, h⟩
  unfold sortRun at h
  split at h
  · rename_i l
    obtain ⟨L, ⟨hl, hL, hb⟩, h⟩ := h
    have hll : l.length = L.length := by rw [hl, its_len]
    refine ⟨Nat.le_of_ble_eq_true rfl, ?_⟩
    cbv
    refine ⟨L, ⟨hl, hL, by omega⟩, ?_⟩
    cbv
    split <;> rename_i hz <;> (try simp only [List.length_replicate, Int.zero_tmod, toIs_ii, ii_len, Int.zero_tdiv, w0, hA, nE, shl, shr, std, zE32, zE64, nc, nth_rd', i64w, u32_wrap, p32, p31, p63, w6432, toIs_len, set_toIs, repl_toIs, app_toIs, tos1, tos0, p1, take_toIs, drop_toIs, ieq_iff, ieq_iff', ilt_iff, ilt_iff', ile_iff, ile_iff', gt_iff_lt, ge_iff_le, Bool.not_eq_true', Bool.not_eq_false', List.drop_zero, Nat.sub_zero] at hz) <;> cbv
    · refine hq _ _ ?_
      subst hA
      refine fin1 h ?_
      simp only [std, sortI, hz, if_true]; rfl
    · have hz' : L.all mayIt = true := by rw [any_may hL] at hz; simpa using hz
      obtain ⟨M, hM⟩ := gs_may hL hz'
      have hMl : M.length = L.length := by rw [hM, gs_len]
      refine ⟨by subst hA; intro _; exact ⟨by rw [hll]; unfold maxRoom; omega, by rw [hll]; unfold maxRoom; omega⟩, ?_⟩
      cbv
      refine ⟨M, ⟨by rw [hA, ← hM]; exact hl, by omega⟩, ?_⟩
      cbv
      refine hq _ _ ?_
      subst hA
      refine fin1 h ?_
      simp only [std, sortI, hz, gs_srt, hM]
      rw [← hM, hz]; rfl
  · exact h.elim
def leastI (L : List It) (n : Int) : List It := (sortI L).take n.toNat
def leastRun (A : Lz) (args : List FV) (q : FV → FV → Prop) : Prop :=
  match args with
  | [.row (.agg [.str, .int .u64, .int .u64]) l, .int .i64 n] => ∃ L : List It, (l = its L ∧ (∀ x ∈ L, x.ok) ∧ L.length < 1099511627776) ∧ q (.row (.agg [.str, .int .u64, .int .u64]) (A _ fun _ => its (leastI L n))) .dead
  | _ => False
theorem cut_least {L : List It} {n : Int} : (List.drop 0 (its L)).take ((if ((its L).length : Int) < (if n < 0 then 0 else n) then ((its L).length : Int) else (if n < 0 then 0 else n)).toNat - 0) = its (L.take n.toNat) := by
  rw [List.drop_zero, its_take, Nat.sub_zero]
  congr 1
  rw [its_len]
  by_cases h0 : n < 0
  · rw [if_pos h0, if_neg (by omega)]
    congr 1; omega
  · rw [if_neg h0]
    by_cases h1 : (L.length : Int) < n
    · rw [if_pos h1, List.take_of_length_le (by omega), List.take_of_length_le (by omega)]
    · rw [if_neg h1]
theorem least_bd {len : Nat} {n : Int} : 0 ≤ (if (len : Int) < (if n < 0 then 0 else n) then (len : Int) else (if n < 0 then 0 else n)) ∧ (if (len : Int) < (if n < 0 then 0 else n) then (len : Int) else (if n < 0 then 0 else n)).toNat ≤ len := by
  by_cases h0 : n < 0
  · rw [if_pos h0, if_neg (by omega)]; omega
  · rw [if_neg h0]
    by_cases h1 : (len : Int) < n
    · rw [if_pos h1]; omega
    · rw [if_neg h1]; omega
theorem parts {X Y : List Gi} {o : List FV} {w' : Int} (hoX : o = its (gs (X ++ Y))) (hw' : w' = (X.length : Int)) : (o.drop 0).take (w'.toNat - 0) = its (gs X) ∧ (o.drop w'.toNat).take (o.length - w'.toNat) = its (gs Y) ∧ (0 ≤ w' ∧ w'.toNat ≤ o.length) := by
  have e : o.length = X.length + Y.length := by rw [hoX, its_gs_len, List.length_append]
  have e1 : List.take X.length (gs (X ++ Y)) = gs X := by unfold gs; rw [← List.map_take, List.take_left']; rfl
  have e2 : List.drop X.length (gs (X ++ Y)) = gs Y := by unfold gs; rw [← List.map_drop, List.drop_left']; rfl
  refine ⟨?_, ?_, by omega, by rw [toN hw']; omega⟩
  · rw [toN hw', hoX, List.drop_zero, Nat.sub_zero, its_take, e1]
  · rw [toN hw', e, hoX, its_drop, e2, List.take_of_length_le (by rw [its_gs_len]; omega)]
theorem least_ok : SpecOk EV 24 ⟨false, leastRun⟩ := by
  refine .fit [.row (.agg [.str, .int .u64, .int .u64])] (spec_go (.cons (f := 23) sort_ok (.nil _)) (fn := Tryd.f24) rfl rfl Tryd.func24 rfl false [] _ ?_)
  rintro A hA args q0 ⟨hw, q, hq, h⟩
  unfold leastRun at h
  split at h
  · rename_i l n
    obtain ⟨L, ⟨hl, hL, hb⟩, h⟩ := h
    refine ⟨Nat.le_of_ble_eq_true rfl, ?_⟩
    cbv
    refine ⟨L, ⟨hl, hL, hb⟩, ?_⟩
    cbv
    refine ⟨by subst hA; exact least_bd, ?_⟩
    refine hq _ _ ?_
    subst hA
    refine fin1 h ?_
    simp only [std, leastI]
    exact congrArg (FV.row _) cut_least
  · exact h.elim
end Go.Proofs.YtjipfimhmfhmhaaDoor.Z
