/- KeepMerges, walked. No condition. -/
import Derived.Test.YtmndbhgbngkakaaDoorKI
namespace Go.Proofs.YtmndbhgbngkakaaDoor.Z
open Go Go.RowKit Go.Proofs.YtmndbhgbngkakaaDoor.E Go.Proofs.YtmndbhgbngkakaaDoor.G Go.Proofs.YtmndbhgbngkakaaDoor.K Go.Proofs.YtmndbhgbngkakaaDoor.F Go.Proofs.YtmndbhgbngkakaaDoor.M Go.Proofs.YtmndbhgbngkakaaDoor.R
open Go.Proofs.YtmndbhgbngkakaaDoorW.PrintWords hiding rd
set_option linter.all false

set_option maxRecDepth 100000
set_option maxHeartbeats 4000000
theorem al_of {S : List Gi} (h : alB (gs S) = true) : Al cG S := by
  have h : ∀ i, i < (gs S).length → alP (gs S) i := of_decide_eq_true h
  intro x hx y hy e
  obtain ⟨i, hi, rfl⟩ := List.mem_iff_getElem.1 hx
  obtain ⟨j, hj, rfl⟩ := List.mem_iff_getElem.1 hy
  have one : ∀ i j, (hi : i < S.length) → (hj : j < S.length) → j < i → cG S[i] S[j] = 0 → S[i] = S[j] := fun i j hi hj hij e => by
    have := h i (by rw [gs_len]; exact hi) j hij
    rw [gi_g hi, gi_g hj] at this
    exact Subtype.ext (this e)
  rcases Nat.lt_trichotomy i j with g | g | g
  · exact (one j i hj hi g (cG_pre.sym e)).symm
  · subst g; rfl
  · exact one i j hi hj g e
/-- What is turned. -/
noncomputable def turn (L : List It) (b i : Nat) : List It := (List.range i).map fun t => gi L ((L.length - t + b) % L.length)
theorem turn_mem {L : List It} {b : Nat} {x : It} : x ∈ turn L b L.length ↔ x ∈ L := by
  unfold turn
  rw [List.mem_map]
  constructor
  · rintro ⟨t, ht, rfl⟩
    exact gi_mem (Nat.mod_lt _ (by have := List.mem_range.1 ht; omega))
  · intro hx
    obtain ⟨j, hj, rfl⟩ := List.mem_iff_getElem.1 hx
    have h0 : 0 < L.length := by omega
    have h1 := Nat.div_add_mod (b + L.length - j) L.length
    have h2 := Nat.mod_lt (b + L.length - j) h0
    refine ⟨(b + L.length - j) % L.length, List.mem_range.2 h2, ?_⟩
    have e : (L.length - (b + L.length - j) % L.length + b) % L.length = j := by
      generalize hq : (b + L.length - j) / L.length = q at *
      generalize ht : (b + L.length - j) % L.length = t at *
      have : L.length - t + b = j + L.length * q := by omega
      rw [this, Nat.add_mul_mod_self_left, Nat.mod_eq_of_lt hj]
    rw [e, gi_at hj]
theorem turn_len {L : List It} {b i : Nat} : (turn L b i).length = i := by simp [turn]
theorem turn_succ {L : List It} {b i : Nat} : turn L b (i + 1) = turn L b i ++ [gi L ((L.length - i + b) % L.length)] := by simp [turn, List.range_succ]
theorem mrg_law {k : Nat} {S Sa Sb Ta Tb : List Gi} {T : List Gi} {N : List It} (hA : Al cG S) (hT : FS cG gk S T) (ha : FS cG gk Sa Ta) (hb : FS cG gk Sb Tb) (hm : ∀ x, x ∈ S ↔ x ∈ Sa ++ Sb) (h : addsR k (gs (Ta.take (k + 1))) (gs (Tb.take (k + 1))) N) : N = gs (T.take (k + 1)) := by
  obtain ⟨S', h1, rfl⟩ := adds_gs ha.srt ha.uq h
  obtain ⟨U, h2, h3⟩ := merged (n := k + 1) cG_pre kc_it (ha.bs cG_pre) (hb.bs cG_pre) h1
  rw [h3, BS.uniq cG_pre kc_it hA (hT.bs cG_pre) h2 hm]
/-- The keeps of all, of what is turned, of both parts, and of what is merged. -/
theorem merges_law {k : Nat} {L La Lb Lt M1 M2 M3 M4 : List It} (hL : ∀ x ∈ L, x.ok) (hc : ∀ x ∈ L, chkIt x = 0) (hal : alB L = true) (hab : ∀ x, x ∈ La ++ Lb ↔ x ∈ L) (ht : ∀ x, x ∈ Lt ↔ x ∈ L)
    (h1 : addsR k [] L M1) (h2 : addsR k [] Lt M2) (h3 : addsR k [] La M3) (h4 : addsR k [] Lb M4) : M2 = M1 ∧ (∀ M5, addsR k M3 M4 M5 → M5 = M1) ∧ (∀ M6, addsR k M4 M3 M6 → M6 = M1) ∧ (∀ M7, addsR k M1 M1 M7 → M7 = M1) := by
  have pos := chks_pos hL hc
  have ha : ∀ x ∈ La, x ∈ L := fun x hx => (hab x).1 (List.mem_append.2 (.inl hx))
  have hb : ∀ x ∈ Lb, x ∈ L := fun x hx => (hab x).1 (List.mem_append.2 (.inr hx))
  obtain ⟨S, rfl⟩ := gs_of pos
  obtain ⟨Sa, rfl⟩ := gs_of (L := La) fun x hx => pos x (ha x hx)
  obtain ⟨Sb, rfl⟩ := gs_of (L := Lb) fun x hx => pos x (hb x hx)
  obtain ⟨St, rfl⟩ := gs_of (L := Lt) fun x hx => pos x ((ht x).1 hx)
  have hA := al_of hal
  obtain ⟨T1, f1, rfl⟩ := all_fs h1
  obtain ⟨T2, f2, rfl⟩ := all_fs h2
  obtain ⟨T3, f3, rfl⟩ := all_fs h3
  obtain ⟨T4, f4, rfl⟩ := all_fs h4
  have m1 : ∀ x, x ∈ S ↔ x ∈ St := fun x => by rw [← mem_gs, ← mem_gs, ht]
  have m2 : ∀ x, x ∈ S ↔ x ∈ Sa ++ Sb := fun x => by rw [← mem_gs, ← hab, ← gs_app, mem_gs]
  have m3 : ∀ x, x ∈ S ↔ x ∈ Sb ++ Sa := fun x => by rw [m2, List.mem_append, List.mem_append]; exact Or.comm
  have m4 : ∀ x, x ∈ S ↔ x ∈ S ++ S := fun x => by rw [List.mem_append]; exact (or_self_iff ..).symm
  refine ⟨by rw [BS.uniq cG_pre kc_it hA (f1.bs cG_pre) (f2.bs cG_pre) m1], fun M5 h => mrg_law hA f1 f3 f4 m2 h, fun M6 h => mrg_law hA f1 f4 f3 m3 h, fun M7 h => mrg_law hA f1 f1 f1 m4 h⟩
theorem right_all {k : Nat} {L M : List It} (hk : 1 ≤ k ∧ k ≤ 1024) (hL : ∀ x ∈ L, x.ok) (hc : ∀ x ∈ L, chkIt x = 0) (h : addsR k [] L M) : rightB k M = true ∧ M.length ≤ k + 1 ∧ ∀ x ∈ M, x.ok := by
  obtain ⟨_, h2⟩ := first_law hL hc hk h
  obtain ⟨h3, h4⟩ := addsR_len hL hc h
  exact ⟨h2, h3, h4⟩
def kMrgRun (A : Lz) (args : List FV) (q : FV → FV → Prop) : Prop :=
  match args with
  | [.int .i64 k, .row (.agg [.str, .int .u64, .int .u64]) l, .int .u64 mask, .int .u8 b] => ∃ (L : List It) (bn : Nat), (l = its L ∧ (∀ x ∈ L, x.ok) ∧ b = bn ∧ bn < 256) ∧ q (.bool true) .dead
  | _ => False
theorem kMrg_ok : SpecOk EV 6 ⟨false, kMrgRun⟩ := by
  refine spec_go (.cons (f := 8) small_ok (.cons (f := 9) awake13_ok (.cons (f := 15) all_ok (.cons (f := 19) alike_ok (.cons (f := 10) kAll_ok (.cons (f := 20) kMerge_ok (.cons (f := 12) same_ok (.nil _)))))))) (fn := Tryd.f6) rfl rfl Tryd.func6 rfl false [] _ ?_
  intro A hA args q h
  unfold kMrgRun at h
  split at h
  · rename_i k l mask b
    obtain ⟨L, bn, ⟨hl, hL, hb, hbn⟩, h⟩ := h
    have hll : l.length = L.length := by rw [hl, its_len]
    refine ⟨Nat.le_of_ble_eq_true rfl, ?_⟩
    cbv
    refine ⟨L, ⟨hl, hL⟩, ?_⟩
    cbv
    split <;> rename_i hz <;> (try simp only [List.length_replicate, Int.zero_tmod, toIs_ii, ii_len, Int.zero_tdiv, w0, hA, nE, shl, shr, std, zE32, zE64, nc, nth_rd', i64w, u32_wrap, p32, p31, p63, w6432, toIs_len, set_toIs, repl_toIs, app_toIs, tos1, tos0, p1, take_toIs, drop_toIs, ieq_iff, ieq_iff', ilt_iff, ilt_iff', ile_iff, ile_iff', gt_iff_lt, ge_iff_le, Bool.not_eq_true', Bool.not_eq_false', List.drop_zero, Nat.sub_zero] at hz) <;> cbv
    · subst hA; exact h
    have hsm : smallB L = true := by simpa [notF] using hz
    have hl60 := small_len' hsm
    refine ⟨L, ⟨hl, hL, by omega⟩, ?_⟩
    cbv
    split <;> rename_i hz <;> (try simp only [List.length_replicate, Int.zero_tmod, toIs_ii, ii_len, Int.zero_tdiv, w0, hA, nE, shl, shr, std, zE32, zE64, nc, nth_rd', i64w, u32_wrap, p32, p31, p63, w6432, toIs_len, set_toIs, repl_toIs, app_toIs, tos1, tos0, p1, take_toIs, drop_toIs, ieq_iff, ieq_iff', ilt_iff, ilt_iff', ile_iff, ile_iff', gt_iff_lt, ge_iff_le, Bool.not_eq_true', Bool.not_eq_false', List.drop_zero, Nat.sub_zero] at hz) <;> cbv
    · subst hA; exact h
    have hca : ∀ x ∈ L, chkIt x = 0 := may_all hL (by simpa [notF] using hz)
    have hcb : ∀ i, i < L.length → chkIt (gi L i) = 0 := fun i hi => hca _ (gi_mem hi)
    refine ⟨L, ⟨hl, hL, by omega⟩, ?_⟩
    cbv
    split <;> rename_i hz <;> (try simp only [List.length_replicate, Int.zero_tmod, toIs_ii, ii_len, Int.zero_tdiv, w0, hA, nE, shl, shr, std, zE32, zE64, nc, nth_rd', i64w, u32_wrap, p32, p31, p63, w6432, toIs_len, set_toIs, repl_toIs, app_toIs, tos1, tos0, p1, take_toIs, drop_toIs, ieq_iff, ieq_iff', ilt_iff, ilt_iff', ile_iff, ile_iff', gt_iff_lt, ge_iff_le, Bool.not_eq_true', Bool.not_eq_false', List.drop_zero, Nat.sub_zero] at hz) <;> cbv
    · subst hA; exact h
    have hal : alB L = true := by simpa [notF] using hz
    iterate 2
      split <;> rename_i hz <;> (try simp only [List.length_replicate, Int.zero_tmod, toIs_ii, ii_len, Int.zero_tdiv, w0, hA, nE, shl, shr, std, zE32, zE64, nc, nth_rd', i64w, u32_wrap, p32, p31, p63, w6432, toIs_len, set_toIs, repl_toIs, app_toIs, tos1, tos0, p1, take_toIs, drop_toIs, ieq_iff, ieq_iff', ilt_iff, ilt_iff', ile_iff, ile_iff', gt_iff_lt, ge_iff_le, Bool.not_eq_true', Bool.not_eq_false', List.drop_zero, Nat.sub_zero] at hz) <;> cbv
      · subst hA; exact h
    rename_i g1 _ g2
    obtain ⟨kn, hkn, hkt, hk1, hk2⟩ : ∃ n : Nat, k = n ∧ k.toNat = n ∧ n ≤ 1024 ∧ 1 ≤ n := ⟨k.toNat, by omega, rfl, by omega, by omega⟩
    refine loop_intro hA [(0, .keep), (1, .keep), (2, .keep), (3, .keep), (9, .own (.agg [.str, .int .u64, .int .u64])), (10, .own (.agg [.str, .int .u64, .int .u64])), (11, .own (.agg [.str, .int .u64, .int .u64])), (50, .keep), (51, .keep), (52, .keep)] (fun n s => ∃ oa ob ot w, s = st [(0, .int .i64 k), (1, .row (.agg [.str, .int .u64, .int .u64]) l), (2, .int .u64 mask), (3, .int .u8 b), (9, .own 9 0), (10, .own 10 0), (11, .own 11 0), (50, .row (.agg [.str, .int .u64, .int .u64]) l), (51, .int .i64 (A _ fun _ => (l.length : Int))), (52, .int .i64 w)] [(9, ⟨0, true, .arr (.agg [.str, .int .u64, .int .u64]) true oa⟩), (10, ⟨0, true, .arr (.agg [.str, .int .u64, .int .u64]) true ob⟩), (11, ⟨0, true, .arr (.agg [.str, .int .u64, .int .u64]) true ot⟩)] ∧
      ∃ (La Lb : List It) (i : Nat), oa = its La ∧ ob = its Lb ∧ ot = its (turn L bn i) ∧ La.length ≤ i ∧ Lb.length ≤ i ∧ (∀ x, x ∈ La ++ Lb ↔ x ∈ L.take i) ∧ w = i ∧ n + i = L.length) L.length ?_ ?_
    · cbv
      (iterate 4 apply Exists.intro); refine ⟨?_, ?_⟩; cbv
      subst hA
      exact ⟨[], [], 0, rfl, rfl, rfl, Nat.le_refl _, Nat.le_refl _, fun x => Iff.rfl, rfl, rfl⟩
    · rintro n s ⟨oa, ob, ot, w, rfl, La, Lb, i, hoa, hob, hot, hla, hlb, hab, hw, hn⟩
      have hw0 : 0 ≤ w ∧ w ≤ l.length := by (try simp only [nc] at *); omega
      obtain ⟨a1, a2, a3⟩ := rdit hl (toN hw)
      have hoal : oa.length ≤ i := by rw [hoa, its_len]; exact hla
      have hobl : ob.length ≤ i := by rw [hob, its_len]; exact hlb
      have hotl : ot.length = i := by rw [hot, its_len, turn_len]
      cbv
      split <;> rename_i hz3 <;> (try simp only [List.length_replicate, Int.zero_tmod, toIs_ii, ii_len, Int.zero_tdiv, w0, hA, nE, shl, shr, std, zE32, zE64, nc, nth_rd', i64w, u32_wrap, p32, p31, p63, w6432, toIs_len, set_toIs, repl_toIs, app_toIs, tos1, tos0, p1, take_toIs, drop_toIs, ieq_iff, ieq_iff', ilt_iff, ilt_iff', ile_iff, ile_iff', gt_iff_lt, ge_iff_le, Bool.not_eq_true', Bool.not_eq_false', List.drop_zero, Nat.sub_zero] at hz3) <;> cbv
      · have hil : i < L.length := by (try simp only [nc] at *); omega
        have htk : L.take (i + 1) = L.take i ++ [gi L i] := by rw [List.take_succ_eq_append_getElem hil, ← gi_at hil]
        have hix : 0 ≤ w ∧ w.toNat < l.length := ⟨hw0.1, by rw [toN hw, hll]; exact hil⟩
        refine ⟨by subst hA; exact hix, ?_⟩
        cbv
        have hrem : Int.tmod (IntKind.i64.wrap (IntKind.i64.wrap ((l.length : Int) - w) + IntKind.i64.wrap b)) (l.length : Int) = (((L.length - i + bn) % L.length : Nat) : Int) := by
          have e1 : IntKind.i64.wrap ((l.length : Int) - w) = ((L.length - i : Nat) : Int) := by rw [i64w, hw, hll]; (try simp only [nc] at *); unfold wrap64; omega
          have e2 : IntKind.i64.wrap b = (bn : Int) := by rw [i64w, hb]; (try simp only [nc] at *); unfold wrap64; omega
          have e3 : IntKind.i64.wrap (((L.length - i : Nat) : Int) + (bn : Int)) = ((L.length - i + bn : Nat) : Int) := by rw [i64w]; unfold wrap64; omega
          rw [e1, e2, e3, hll]; rfl
        have hmod : (L.length - i + bn) % L.length < L.length := Nat.mod_lt _ (by omega)
        obtain ⟨c1, c2, c3⟩ := rdit hl (toN hrem)
        refine ⟨by subst hA; exact hw0.1, ?_⟩
        split <;> rename_i hz4 <;> cbv
        · refine ⟨by subst hA; unfold maxRoom; simp only [std, List.length_cons, List.length_nil]; omega, ?_⟩
          cbv
          refine ⟨by subst hA; simp only [std]; omega, ?_⟩
          cbv
          refine ⟨by subst hA; simp only [std, hrem]; exact ⟨Int.natCast_nonneg _, by rw [Int.toNat_natCast, hll]; exact hmod⟩, ?_⟩
          cbv
          refine ⟨by subst hA; unfold maxRoom; simp only [std, List.length_cons, List.length_nil]; omega, ?_⟩
          cbv
          refine ⟨n - 1, by omega, ?_⟩
          cbv
          (iterate 4 apply Exists.intro); refine ⟨?_, ?_⟩; cbv
          subst hA
          refine ⟨La ++ [gi L i], Lb, i + 1, ?_, hob, ?_, by simp; omega, by omega, fun x => ?_, wsucc hw (by omega), by omega⟩
          · simp only [std, a1, a2, a3, hoa]; rw [← its_app]; rfl
          · simp only [std, c1, c2, c3, hot, turn_succ]; rw [← its_app]; rfl
          · rw [htk]
            have := hab x
            simp only [List.mem_append] at this ⊢
            rw [← this]
            constructor
            · rintro ((h | h) | h)
              · exact .inl (.inl h)
              · exact .inr h
              · exact .inl (.inr h)
            · rintro ((h | h) | h)
              · exact .inl (.inl h)
              · exact .inr h
              · exact .inl (.inr h)
        · refine ⟨by subst hA; unfold maxRoom; simp only [std, List.length_cons, List.length_nil]; omega, ?_⟩
          cbv
          refine ⟨by subst hA; simp only [std]; omega, ?_⟩
          cbv
          refine ⟨by subst hA; simp only [std, hrem]; exact ⟨Int.natCast_nonneg _, by rw [Int.toNat_natCast, hll]; exact hmod⟩, ?_⟩
          cbv
          refine ⟨by subst hA; unfold maxRoom; simp only [std, List.length_cons, List.length_nil]; omega, ?_⟩
          cbv
          refine ⟨n - 1, by omega, ?_⟩
          cbv
          (iterate 4 apply Exists.intro); refine ⟨?_, ?_⟩; cbv
          subst hA
          refine ⟨La, Lb ++ [gi L i], i + 1, hoa, ?_, ?_, by omega, by simp; omega, fun x => ?_, wsucc hw (by omega), by omega⟩
          · simp only [std, a1, a2, a3, hob]; rw [← its_app]; rfl
          · simp only [std, c1, c2, c3, hot, turn_succ]; rw [← its_app]; rfl
          · rw [htk, ← List.append_assoc, List.mem_append, hab, List.mem_append]
      · have hil : i = L.length := by (try simp only [nc] at *); omega
        subst hil
        rw [List.take_length] at hab
        have ha : ∀ x ∈ La, x ∈ L := fun x hx => (hab x).1 (List.mem_append.2 (.inl hx))
        have hbm : ∀ x ∈ Lb, x ∈ L := fun x hx => (hab x).1 (List.mem_append.2 (.inr hx))
        have htm : ∀ x, x ∈ turn L bn L.length ↔ x ∈ L := fun x => turn_mem
        have hk : 1 ≤ kn ∧ kn ≤ 1024 := ⟨hk2, hk1⟩
        have oka : ∀ x ∈ La, x.ok := fun x hx => hL x (ha x hx)
        have okb : ∀ x ∈ Lb, x.ok := fun x hx => hL x (hbm x hx)
        have okt : ∀ x ∈ turn L bn L.length, x.ok := fun x hx => hL x ((htm x).1 hx)
        have ca : ∀ x ∈ La, chkIt x = 0 := fun x hx => hca x (ha x hx)
        have cb : ∀ x ∈ Lb, chkIt x = 0 := fun x hx => hca x (hbm x hx)
        have ct : ∀ x ∈ turn L bn L.length, chkIt x = 0 := fun x hx => hca x ((htm x).1 hx)
        refine ⟨L, ⟨hl, hL, by omega⟩, fun hk => absurd ⟨by omega, by omega⟩ hk, fun _ i hi _ hc => absurd (hcb i hi) hc, fun _ _ M1 h1 => ?_⟩
        generalize e1 : its M1 = m1
        cbv
        refine ⟨turn L bn L.length, ⟨hot, okt, by rw [turn_len]; omega⟩, fun hk => absurd ⟨by omega, by omega⟩ hk, fun _ i hi _ hc => absurd (ct _ (gi_mem hi)) hc, fun _ _ M2 h2 => ?_⟩
        generalize e2 : its M2 = m2
        cbv
        refine ⟨La, ⟨hoa, oka, by omega⟩, fun hk => absurd ⟨by omega, by omega⟩ hk, fun _ i hi _ hc => absurd (ca _ (gi_mem hi)) hc, fun _ _ M3 h3 => ?_⟩
        generalize e3 : its M3 = m3
        cbv
        refine ⟨Lb, ⟨hob, okb, by omega⟩, fun hk => absurd ⟨by omega, by omega⟩ hk, fun _ i hi _ hc => absurd (cb _ (gi_mem hi)) hc, fun _ _ M4 h4 => ?_⟩
        generalize e4 : its M4 = m4
        rw [hkt] at h1 h2 h3 h4
        obtain ⟨r1, l1, o1⟩ := right_all hk hL hca h1
        obtain ⟨r3, l3, o3⟩ := right_all hk oka ca h3
        obtain ⟨r4, l4, o4⟩ := right_all hk okb cb h4
        obtain ⟨q1, q2, q3, q4⟩ := merges_law hL hca hal hab htm h1 h2 h3 h4
        have r1 : rightB k M1 = true := by rw [hkn]; exact r1
        have r3 : rightB k M3 = true := by rw [hkn]; exact r3
        have r4 : rightB k M4 = true := by rw [hkn]; exact r4
        cbv
        refine ⟨M3, M4, ⟨e3.symm, o3, by omega, e4.symm, o4, by omega⟩, fun hf => (by rw [r3, r4] at hf; cases hf), fun _ M5 h5 => ?_⟩
        generalize e5 : its M5 = m5
        cbv
        refine ⟨M4, M3, ⟨e4.symm, o4, by omega, e3.symm, o3, by omega⟩, fun hf => (by rw [r3, r4] at hf; cases hf), fun _ M6 h6 => ?_⟩
        generalize e6 : its M6 = m6
        cbv
        refine ⟨M1, M1, ⟨e1.symm, o1, by omega, e1.symm, o1, by omega⟩, fun hf => (by rw [r1] at hf; cases hf), fun _ M7 h7 => ?_⟩
        generalize e7 : its M7 = m7
        rw [hkt] at h5 h6 h7
        have q2 := q2 _ h5
        have q3 := q3 _ h6
        have q4 := q4 _ h7
        cbv
        iterate 5 (split <;> rename_i hz <;> first | (exfalso; subst hA; revert hz; decide) | cbv)
        refine ⟨M1, M2, ⟨e1.symm, e2.symm, by omega⟩, ?_⟩
        cbv
        split <;> rename_i hz5 <;> (try simp only [List.length_replicate, Int.zero_tmod, toIs_ii, ii_len, Int.zero_tdiv, w0, hA, nE, shl, shr, std, zE32, zE64, nc, nth_rd', i64w, u32_wrap, p32, p31, p63, w6432, toIs_len, set_toIs, repl_toIs, app_toIs, tos1, tos0, p1, take_toIs, drop_toIs, ieq_iff, ieq_iff', ilt_iff, ilt_iff', ile_iff, ile_iff', gt_iff_lt, ge_iff_le, Bool.not_eq_true', Bool.not_eq_false', List.drop_zero, Nat.sub_zero] at hz5) <;> cbv
        rotate_left
        · exfalso; rw [q1] at hz5; simp at hz5
        refine ⟨M1, M5, ⟨e1.symm, e5.symm, by omega⟩, ?_⟩
        cbv
        split <;> rename_i hz5 <;> (try simp only [List.length_replicate, Int.zero_tmod, toIs_ii, ii_len, Int.zero_tdiv, w0, hA, nE, shl, shr, std, zE32, zE64, nc, nth_rd', i64w, u32_wrap, p32, p31, p63, w6432, toIs_len, set_toIs, repl_toIs, app_toIs, tos1, tos0, p1, take_toIs, drop_toIs, ieq_iff, ieq_iff', ilt_iff, ilt_iff', ile_iff, ile_iff', gt_iff_lt, ge_iff_le, Bool.not_eq_true', Bool.not_eq_false', List.drop_zero, Nat.sub_zero] at hz5) <;> cbv
        rotate_left
        · exfalso; rw [q2] at hz5; simp at hz5
        refine ⟨M1, M6, ⟨e1.symm, e6.symm, by omega⟩, ?_⟩
        cbv
        split <;> rename_i hz5 <;> (try simp only [List.length_replicate, Int.zero_tmod, toIs_ii, ii_len, Int.zero_tdiv, w0, hA, nE, shl, shr, std, zE32, zE64, nc, nth_rd', i64w, u32_wrap, p32, p31, p63, w6432, toIs_len, set_toIs, repl_toIs, app_toIs, tos1, tos0, p1, take_toIs, drop_toIs, ieq_iff, ieq_iff', ilt_iff, ilt_iff', ile_iff, ile_iff', gt_iff_lt, ge_iff_le, Bool.not_eq_true', Bool.not_eq_false', List.drop_zero, Nat.sub_zero] at hz5) <;> cbv
        rotate_left
        · exfalso; rw [q3] at hz5; simp at hz5
        refine ⟨M1, M7, ⟨e1.symm, e7.symm, by omega⟩, ?_⟩
        cbv
        split <;> rename_i hz5 <;> (try simp only [List.length_replicate, Int.zero_tmod, toIs_ii, ii_len, Int.zero_tdiv, w0, hA, nE, shl, shr, std, zE32, zE64, nc, nth_rd', i64w, u32_wrap, p32, p31, p63, w6432, toIs_len, set_toIs, repl_toIs, app_toIs, tos1, tos0, p1, take_toIs, drop_toIs, ieq_iff, ieq_iff', ilt_iff, ilt_iff', ile_iff, ile_iff', gt_iff_lt, ge_iff_le, Bool.not_eq_true', Bool.not_eq_false', List.drop_zero, Nat.sub_zero] at hz5) <;> cbv
        rotate_left
        · exfalso; rw [q4] at hz5; simp at hz5
        subst hA; exact h
  · exact h.elim
end Go.Proofs.YtmndbhgbngkakaaDoor.Z
