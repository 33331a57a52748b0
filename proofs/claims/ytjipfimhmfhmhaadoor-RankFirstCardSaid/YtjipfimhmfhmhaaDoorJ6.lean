/- Items are sorted: two parts, each in order, are merged. No condition. -/
import Derived.Test.YtjipfimhmfhmhaaDoorJ5
namespace Go.Proofs.YtjipfimhmfhmhaaDoor.Z
open Go Go.RowKit Go.Proofs.YtjipfimhmfhmhaaDoor.E Go.Proofs.YtjipfimhmfhmhaaDoor.G Go.Proofs.YtjipfimhmfhmhaaDoor.K Go.Proofs.YtjipfimhmfhmhaaDoor.F Go.Proofs.YtjipfimhmfhmhaaDoor.M Go.Proofs.YtjipfimhmfhmhaaDoor.R
open Go.Proofs.YtjipfimhmfhmhaaDoorW.PrintWords hiding rd
set_option linter.all false

set_option maxRecDepth 100000
set_option maxHeartbeats 4000000
theorem wmid' {a b : Int} {p q r : Nat} (h : a = p) (h' : b = q) (hk : p + q < 9223372036854775808) (hr : (p + q) / 2 = r) : IntKind.i64.wrap (IntKind.u64.wrap (IntKind.i64.wrap (a + b)) / 2 ^ min (Int.toNat 1) (IntKind.bits .u64)) = (r : Int) := by
  rw [p2, wmid h h' hk, hr]
theorem srtd_take {L : List Gi} (h : Srtd cG L) (n : Nat) : Srtd cG (L.take n) := by
  rw [← List.take_append_drop n L] at h
  exact (srtd_append.1 h).1
theorem srtd_drop {L : List Gi} (h : Srtd cG L) (n : Nat) : Srtd cG (L.drop n) := by
  rw [← List.take_append_drop n L] at h
  exact (srtd_append.1 h).2.1
theorem at_some {α : Type} {L : List α} {n : Nat} (h : n < L.length) {y : α} (e : L[n]? = some y) : y = L[n] := by rw [List.getElem?_eq_getElem h] at e; exact (Option.some.inj e).symm
theorem sym_cut {X Y : List Gi} (sX : Srtd cG X) (sY : Srtd cG Y) {e H : Nat} (hex : e ≤ X.length) (heH : e ≤ H) (hHs : H ≤ e + Y.length) (h1 : ∀ z v, 0 < e → X[e - 1]? = some z → Y[H - e]? = some v → ¬ cG v z < 0) (h2 : ∀ z v, e < H → X[e]? = some z → Y[H - 1 - e]? = some v → cG v z < 0) :
    ∃ X1 X2 Y1 Y2 : List Gi, X = X1 ++ X2 ∧ Y = Y1 ++ Y2 ∧ X1.length = e ∧ X1.length + X2.length = X.length ∧ e + Y1.length = H ∧ Y1.length + Y2.length = Y.length ∧ Srtd cG X1 ∧ Srtd cG X2 ∧ Srtd cG Y1 ∧ Srtd cG Y2 ∧ (srt cG (X1 ++ Y1)).length = H ∧ srt cG (X1 ++ Y1) ++ srt cG (X2 ++ Y2) = srt cG (X ++ Y) := by
  have hfin := sym_fin cG_pre sX sY (s := e) (e := H - e) h1 (fun z v h0 hx hy => h2 z v (by omega) hx (by rw [← hy]; congr 1; omega)) hex (by omega)
  have lx1 : (X.take e).length = e := by rw [List.length_take]; omega
  have lx2 : (X.drop e).length = X.length - e := List.length_drop
  have ly1 : (Y.take (H - e)).length = H - e := by rw [List.length_take]; omega
  have ly2 : (Y.drop (H - e)).length = Y.length - (H - e) := List.length_drop
  exact ⟨X.take e, X.drop e, Y.take (H - e), Y.drop (H - e), (List.take_append_drop _ _).symm, (List.take_append_drop _ _).symm, lx1, by omega, by omega, by omega, srtd_take sX _, srtd_drop sX _, srtd_take sY _, srtd_drop sY _, by rw [srt_len, List.length_append]; omega, hfin⟩
def symRun (N : Nat) (A : Lz) (args : List FV) (q : FV → FV → Prop) : Prop :=
  match args with
  | [.row (.agg [.str, .int .u64, .int .u64]) l, .int .i64 a, .int .i64 m, .int .i64 b, .fn 18 [] []] => ∃ P X Y S : List Gi, (l = its (gs (P ++ (X ++ (Y ++ S)))) ∧ a = P.length ∧ m = ((P.length + X.length : Nat) : Int) ∧ b = ((P.length + X.length + Y.length : Nat) : Int) ∧ 0 < X.length ∧ 0 < Y.length ∧
      P.length + X.length + Y.length + S.length < 1152921504606846976 ∧ Srtd cG X ∧ Srtd cG Y ∧ X.length + Y.length ≤ N) ∧
      q (.tup []) (.row (.agg [.str, .int .u64, .int .u64]) (A _ fun _ => its (gs (P ++ (srt cG (X ++ Y) ++ S)))))
  | _ => False
theorem sym_step {N : Nat} (ih : SpecOk EV 96 ⟨true, symRun N⟩) : SpecOk EV 96 ⟨true, symRun (N + 1)⟩ := by
  refine spec_go (.cons (f := 18) cmpIt_ok (.cons (f := 96) ih (.cons (f := 107) rot_ok (.nil _)))) (fn := Tryd.f96) rfl rfl Tryd.func96 rfl true [] _ ?_
  intro A hA args q h
  unfold symRun at h
  split at h
  · rename_i l a m b
    obtain ⟨P, X, Y, S, ⟨hl, ha, hm, hb, hX, hY, hlen, sX, sY, hN⟩, h⟩ := h
    have hll : l.length = P.length + X.length + Y.length + S.length := by rw [hl, its_len, gs_len]; simp; omega
    have ha0 : 0 ≤ a := by rw [ha]; exact Int.natCast_nonneg _
    have hm0 : 0 ≤ m := by rw [hm]; exact Int.natCast_nonneg _
    have e0 := wsub hm ha (by omega) (by omega)
    have e1 := wsub hb hm (by omega) (by omega)
    rw [show P.length + X.length - P.length = X.length by omega] at e0
    rw [show P.length + X.length + Y.length - (P.length + X.length) = Y.length by omega] at e1
    refine ⟨Nat.le_of_ble_eq_true rfl, ?_⟩
    cbv
    split <;> rename_i hz <;> (try simp only [List.length_replicate, Int.zero_tmod, toIs_ii, ii_len, Int.zero_tdiv, w0, hA, nE, shl, shr, std, zE32, zE64, nc, nth_rd', i64w, u32_wrap, p32, p31, p63, w6432, toIs_len, set_toIs, repl_toIs, app_toIs, tos1, tos0, p1, take_toIs, drop_toIs, ieq_iff, ieq_iff', ilt_iff, ilt_iff', ile_iff, ile_iff', gt_iff_lt, ge_iff_le, Bool.not_eq_true', Bool.not_eq_false', List.drop_zero, Nat.sub_zero] at hz) <;> (try rw [← i64w, e0] at hz) <;> cbv
    · have hX1 : X.length = 1 := by (try simp only [nc] at *); omega
      obtain ⟨x, rfl⟩ := List.length_eq_one_iff.1 hX1
      have hlm : l.length = P.length + 1 + Y.length + S.length := hll
      have hlen1 : P.length + 1 + Y.length + S.length < 1152921504606846976 := hlen
      refine loop_intro hA [(0, .own (.agg [.str, .int .u64, .int .u64])), (1, .keep), (4, .keep), (10, .keep), (11, .keep)] (fun n s => ∃ w w', s = st [(0, .own 0 0), (1, .int .i64 a), (4, .fn 18 [] []), (10, .int .i64 w), (11, .int .i64 w')] [(0, ⟨0, true, .arr (.agg [.str, .int .u64, .int .u64]) false l⟩)] ∧
        ∃ s e : Nat, w = ((P.length + 1 + s : Nat) : Int) ∧ w' = ((P.length + 1 + e : Nat) : Int) ∧ s ≤ e ∧ e ≤ Y.length ∧ n = e - s ∧ (∀ y, 0 < s → Y[s - 1]? = some y → cG y x < 0) ∧ (∀ y, Y[e]? = some y → ¬ cG y x < 0)) Y.length ?_ ?_
      · cbv
        (iterate 2 apply Exists.intro); refine ⟨?_, ?_⟩; cbv
        refine ⟨0, Y.length, hm, hb, by omega, by omega, by omega, fun y h => absurd h (by omega), fun y h => ?_⟩
        rw [List.getElem?_eq_none (by omega)] at h; cases h
      · rintro n s ⟨w, w', rfl, s, e, hw, hw', hse, he, hn, h1, h2⟩
        cbv
        split <;> rename_i hz <;> (try simp only [List.length_replicate, Int.zero_tmod, toIs_ii, ii_len, Int.zero_tdiv, w0, hA, nE, shl, shr, std, zE32, zE64, nc, nth_rd', i64w, u32_wrap, p32, p31, p63, w6432, toIs_len, set_toIs, repl_toIs, app_toIs, tos1, tos0, p1, take_toIs, drop_toIs, ieq_iff, ieq_iff', ilt_iff, ilt_iff', ile_iff, ile_iff', gt_iff_lt, ge_iff_le, Bool.not_eq_true', Bool.not_eq_false', List.drop_zero, Nat.sub_zero] at hz) <;> cbv
        · have hlt : s < e := by (try simp only [nc] at *); omega
          have hc : (s + e) / 2 < Y.length := by omega
          have ew := wmid' hw hw' (by omega) (show (P.length + 1 + s + (P.length + 1 + e)) / 2 = P.length + 1 + (s + e) / 2 by omega)
          have tw := toN ew
          have ixw : 0 ≤ (IntKind.i64.wrap (IntKind.u64.wrap (IntKind.i64.wrap (w + w')) / 2 ^ min (Int.toNat 1) (IntKind.bits .u64))) ∧ (IntKind.i64.wrap (IntKind.u64.wrap (IntKind.i64.wrap (w + w')) / 2 ^ min (Int.toNat 1) (IntKind.bits .u64))).toNat < l.length := ⟨by rw [ew]; omega, by rw [tw]; omega⟩
          have ixa : 0 ≤ a ∧ a.toNat < l.length := ⟨ha0, by rw [toN ha]; omega⟩
          have ews := wsucc ew (by omega)
          have ixm : 0 ≤ m ∧ m.toNat < l.length := ⟨hm0, by rw [toN hm]; simp only [List.length_cons, List.length_nil] at *; omega⟩
          obtain ⟨k1, u1, w1⟩ := elq hl (n := (IntKind.i64.wrap (IntKind.u64.wrap (IntKind.i64.wrap (w + w')) / 2 ^ min (Int.toNat 1) (IntKind.bits .u64))).toNat) (by rw [tw]; exact atY (X := [x]) hc rfl)
          obtain ⟨k2, u2, w2⟩ := elq hl (n := a.toNat) (by rw [toN ha]; exact atX (X := [x]) (t := 0) (by simp) rfl)
          refine ⟨by subst hA; exact (by decide : (0 : Int) ≤ 1), by subst hA; exact ixw, by subst hA; exact ixa, by subst hA; simp only [std, k1, u1, w1, k2, u2, w2]; exact ⟨(Y[(s + e) / 2]'hc).2.1, x.2.1⟩, ?_⟩
          cbv
          split <;> rename_i hz <;> (try simp only [List.length_replicate, Int.zero_tmod, toIs_ii, ii_len, Int.zero_tdiv, w0, hA, nE, shl, shr, std, zE32, zE64, nc, nth_rd', i64w, u32_wrap, p32, p31, p63, w6432, toIs_len, set_toIs, repl_toIs, app_toIs, tos1, tos0, p1, take_toIs, drop_toIs, ieq_iff, ieq_iff', ilt_iff, ilt_iff', ile_iff, ile_iff', gt_iff_lt, ge_iff_le, Bool.not_eq_true', Bool.not_eq_false', List.drop_zero, Nat.sub_zero] at hz) <;> (try simp only [← i64w] at hz) <;> cbv
          all_goals rw [k1, u1, w1, k2, u2, w2] at hz
          · refine ⟨e - ((s + e) / 2 + 1), by omega, ?_⟩
            cbv
            (iterate 2 apply Exists.intro); refine ⟨?_, ?_⟩; cbv
            subst hA
            refine ⟨(s + e) / 2 + 1, e, ews, hw', by omega, he, rfl, fun y _ hy => ?_, h2⟩
            rw [at_some hc hy]; exact hz
          · refine ⟨(s + e) / 2 - s, by omega, ?_⟩
            cbv
            (iterate 2 apply Exists.intro); refine ⟨?_, ?_⟩; cbv
            subst hA
            refine ⟨s, (s + e) / 2, hw, ew, by omega, by omega, rfl, h1, fun y hy => ?_⟩
            rw [at_some hc hy]; exact hz
        · have hse : e = s := by (try simp only [nc] at *); omega
          subst hse
          have e3 : IntKind.i64.wrap (w - 1) = ((P.length + e : Nat) : Int) := wpred (by rw [hw]; congr 1; omega) (by omega)
          have e3' : wrap64 (w - 1) = ((P.length + e : Nat) : Int) := (i64w _).symm.trans e3
          refine loop_intro hA [(0, .own (.agg [.str, .int .u64, .int .u64])), (10, .keep), (13, .keep)] (fun n s => ∃ o w', s = st [(0, .own 0 0), (10, .int .i64 w), (13, .int .i64 w')] [(0, ⟨0, true, .arr (.agg [.str, .int .u64, .int .u64]) false o⟩)] ∧
            ∃ t : Nat, w' = ((P.length + t : Nat) : Int) ∧ t ≤ e ∧ n = e - t ∧ o = its (gs (P ++ (Y.take t ++ (x :: (Y.drop t ++ S)))))) e ?_ ?_
          · cbv
            (iterate 2 apply Exists.intro); refine ⟨?_, ?_⟩; cbv
            exact ⟨0, ha, by omega, rfl, by rw [hl]; simp⟩
          · rintro n s ⟨o, w', rfl, t, hw2, hte, hn, ho⟩
            cbv
            split <;> rename_i hz <;> (try simp only [List.length_replicate, Int.zero_tmod, toIs_ii, ii_len, Int.zero_tdiv, w0, hA, nE, shl, shr, std, zE32, zE64, nc, nth_rd', i64w, u32_wrap, p32, p31, p63, w6432, toIs_len, set_toIs, repl_toIs, app_toIs, tos1, tos0, p1, take_toIs, drop_toIs, ieq_iff, ieq_iff', ilt_iff, ilt_iff', ile_iff, ile_iff', gt_iff_lt, ge_iff_le, Bool.not_eq_true', Bool.not_eq_false', List.drop_zero, Nat.sub_zero] at hz) <;> cbv
            · have hlt : t < e := by (try simp only [nc] at *); omega
              obtain ⟨y, D, hD⟩ := drop_c (M := Y) (k := t) (by omega)
              have hDl : D.length + t + 1 = Y.length := by have := congrArg List.length hD; simp at this; omega
              have o1 : o = its (gs ((P ++ Y.take t) ++ x :: ([] ++ y :: (D ++ S)))) := by rw [ho, hD]; simp
              have o2 : o = its (gs (((P ++ Y.take t) ++ [x]) ++ y :: (D ++ S))) := by rw [o1]; simp
              have lt : (Y.take t).length = t := by rw [List.length_take]; omega
              have hol : o.length = P.length + 1 + Y.length + S.length := by rw [o1, its_len, gs_len]; simp; omega
              have ea := toN hw2
              have eb : IntKind.i64.wrap (w' + 1) = ((P.length + t + 1 : Nat) : Int) := wsucc hw2 (by omega)
              have tb := toN eb
              have ix1 : 0 ≤ w' ∧ w'.toNat < o.length := ⟨by rw [hw2]; exact Int.natCast_nonneg _, by rw [ea]; omega⟩
              have ix2 : 0 ≤ IntKind.i64.wrap (w' + 1) ∧ (IntKind.i64.wrap (w' + 1)).toNat < o.length := ⟨by rw [eb]; omega, by rw [tb]; omega⟩
              obtain ⟨k1, u1, w1⟩ := el3 (n := w'.toNat) o1 (by rw [ea]; simp; omega)
              obtain ⟨k2, u2, w2⟩ := el3 (n := (IntKind.i64.wrap (w' + 1)).toNat) o2 (by rw [tb]; simp; omega)
              refine ⟨by subst hA; exact ix2, by subst hA; exact ix1, by subst hA; exact ix1, by subst hA; simp only [std, setN, List.length_set]; exact ix2, e - (t + 1), by omega, ?_⟩
              cbv
              (iterate 2 apply Exists.intro); refine ⟨?_, ?_⟩; cbv
              subst hA
              refine ⟨t + 1, eb, by omega, rfl, ?_⟩
              simp only [std, newElt, putC, FV.cells, elt, mkE, mkL, mk1, fit, fitL, fit1, k1, u1, w1, k2, u2, w2]
              refine (swap2_gs (i := w'.toNat) (j := (IntKind.i64.wrap (w' + 1)).toNat) o1 (by rw [ea]; simp; omega) (by rw [tb]; simp; omega)).trans ?_
              rw [take_s hD, drop_s hD]
              simp
            · have hte : t = e := by (try simp only [nc] at *); omega
              subst hte
              subst hA
              refine fin2 h rfl ?_
              have := sym1 cG_pre sY h1 h2 (by omega)
              rw [ho]
              show FV.row _ (its (gs _)) = FV.row _ (its (gs (P ++ (srt cG (x :: Y) ++ S))))
              rw [← this]; simp
    · split <;> rename_i hz2 <;> (try simp only [List.length_replicate, Int.zero_tmod, toIs_ii, ii_len, Int.zero_tdiv, w0, hA, nE, shl, shr, std, zE32, zE64, nc, nth_rd', i64w, u32_wrap, p32, p31, p63, w6432, toIs_len, set_toIs, repl_toIs, app_toIs, tos1, tos0, p1, take_toIs, drop_toIs, ieq_iff, ieq_iff', ilt_iff, ilt_iff', ile_iff, ile_iff', gt_iff_lt, ge_iff_le, Bool.not_eq_true', Bool.not_eq_false', List.drop_zero, Nat.sub_zero] at hz2) <;> (try rw [← i64w, e1] at hz2) <;> cbv
      · have hY1 : Y.length = 1 := by (try simp only [nc] at *); omega
        obtain ⟨y, rfl⟩ := List.length_eq_one_iff.1 hY1
        have hlm : l.length = P.length + X.length + 1 + S.length := hll
        have hlen1 : P.length + X.length + 1 + S.length < 1152921504606846976 := hlen
        refine loop_intro hA [(0, .own (.agg [.str, .int .u64, .int .u64])), (2, .keep), (4, .keep), (14, .keep), (15, .keep)] (fun n s => ∃ w w', s = st [(0, .own 0 0), (2, .int .i64 m), (4, .fn 18 [] []), (14, .int .i64 w), (15, .int .i64 w')] [(0, ⟨0, true, .arr (.agg [.str, .int .u64, .int .u64]) false l⟩)] ∧
          ∃ s e : Nat, w = ((P.length + s : Nat) : Int) ∧ w' = ((P.length + e : Nat) : Int) ∧ s ≤ e ∧ e ≤ X.length ∧ n = e - s ∧ (∀ z, 0 < s → X[s - 1]? = some z → ¬ cG y z < 0) ∧ (∀ z, X[e]? = some z → cG y z < 0)) X.length ?_ ?_
        · cbv
          (iterate 2 apply Exists.intro); refine ⟨?_, ?_⟩; cbv
          refine ⟨0, X.length, ha, hm, by omega, by omega, by omega, fun y h => absurd h (by omega), fun y h => ?_⟩
          rw [List.getElem?_eq_none (by omega)] at h; cases h
        · rintro n s ⟨w, w', rfl, s, e, hw, hw', hse, he, hn, h1, h2⟩
          cbv
          split <;> rename_i hz <;> (try simp only [List.length_replicate, Int.zero_tmod, toIs_ii, ii_len, Int.zero_tdiv, w0, hA, nE, shl, shr, std, zE32, zE64, nc, nth_rd', i64w, u32_wrap, p32, p31, p63, w6432, toIs_len, set_toIs, repl_toIs, app_toIs, tos1, tos0, p1, take_toIs, drop_toIs, ieq_iff, ieq_iff', ilt_iff, ilt_iff', ile_iff, ile_iff', gt_iff_lt, ge_iff_le, Bool.not_eq_true', Bool.not_eq_false', List.drop_zero, Nat.sub_zero] at hz) <;> cbv
          · have hlt : s < e := by (try simp only [nc] at *); omega
            have hc : (s + e) / 2 < X.length := by omega
            have ew := wmid' hw hw' (by omega) (show (P.length + s + (P.length + e)) / 2 = P.length + (s + e) / 2 by omega)
            have tw := toN ew
            have ixw : 0 ≤ (IntKind.i64.wrap (IntKind.u64.wrap (IntKind.i64.wrap (w + w')) / 2 ^ min (Int.toNat 1) (IntKind.bits .u64))) ∧ (IntKind.i64.wrap (IntKind.u64.wrap (IntKind.i64.wrap (w + w')) / 2 ^ min (Int.toNat 1) (IntKind.bits .u64))).toNat < l.length := ⟨by rw [ew]; omega, by rw [tw]; omega⟩
            have ixa : 0 ≤ a ∧ a.toNat < l.length := ⟨ha0, by rw [toN ha]; omega⟩
            have ews := wsucc ew (by omega)
            have ixm : 0 ≤ m ∧ m.toNat < l.length := ⟨hm0, by rw [toN hm]; simp only [List.length_cons, List.length_nil] at *; omega⟩
            obtain ⟨k1, u1, w1⟩ := elq hl (n := (IntKind.i64.wrap (IntKind.u64.wrap (IntKind.i64.wrap (w + w')) / 2 ^ min (Int.toNat 1) (IntKind.bits .u64))).toNat) (by rw [tw]; exact atX hc rfl)
            obtain ⟨k2, u2, w2⟩ := elq hl (n := m.toNat) (by rw [toN hm]; exact atY (Y := [y]) (t := 0) (by simp) rfl)
            refine ⟨by subst hA; exact (by decide : (0 : Int) ≤ 1), by subst hA; exact ixm, by subst hA; exact ixw, by subst hA; simp only [std, k1, u1, w1, k2, u2, w2]; exact ⟨y.2.1, (X[(s + e) / 2]'hc).2.1⟩, ?_⟩
            cbv
            split <;> rename_i hz <;> (try simp only [List.length_replicate, Int.zero_tmod, toIs_ii, ii_len, Int.zero_tdiv, w0, hA, nE, shl, shr, std, zE32, zE64, nc, nth_rd', i64w, u32_wrap, p32, p31, p63, w6432, toIs_len, set_toIs, repl_toIs, app_toIs, tos1, tos0, p1, take_toIs, drop_toIs, ieq_iff, ieq_iff', ilt_iff, ilt_iff', ile_iff, ile_iff', gt_iff_lt, ge_iff_le, Bool.not_eq_true', Bool.not_eq_false', List.drop_zero, Nat.sub_zero] at hz) <;> (try simp only [← i64w] at hz) <;> cbv
            all_goals rw [k1, u1, w1, k2, u2, w2] at hz
            · refine ⟨e - ((s + e) / 2 + 1), by omega, ?_⟩
              cbv
              (iterate 2 apply Exists.intro); refine ⟨?_, ?_⟩; cbv
              subst hA
              refine ⟨(s + e) / 2 + 1, e, ews, hw', by omega, he, rfl, fun z _ hy => ?_, h2⟩
              rw [at_some hc hy]; exact hz
            · refine ⟨(s + e) / 2 - s, by omega, ?_⟩
              cbv
              (iterate 2 apply Exists.intro); refine ⟨?_, ?_⟩; cbv
              subst hA
              refine ⟨s, (s + e) / 2, hw, ew, by omega, by omega, rfl, h1, fun z hy => ?_⟩
              rw [at_some hc hy]
              exact hz
          · have hse : e = s := by (try simp only [nc] at *); omega
            subst hse
            refine loop_intro hA [(0, .own (.agg [.str, .int .u64, .int .u64])), (14, .keep), (17, .keep)] (fun n s => ∃ o w', s = st [(0, .own 0 0), (14, .int .i64 w), (17, .int .i64 w')] [(0, ⟨0, true, .arr (.agg [.str, .int .u64, .int .u64]) false o⟩)] ∧
              ∃ t : Nat, w' = ((P.length + t : Nat) : Int) ∧ e ≤ t ∧ t ≤ X.length ∧ n = t ∧ o = its (gs (P ++ (X.take t ++ (y :: (X.drop t ++ S)))))) X.length ?_ ?_
            · cbv
              (iterate 2 apply Exists.intro); refine ⟨?_, ?_⟩; cbv
              exact ⟨X.length, hm, by omega, by omega, rfl, by rw [hl]; simp⟩
            · rintro n s ⟨o, w', rfl, t, hw2, hte, htx, hn, ho⟩
              cbv
              split <;> rename_i hz <;> (try simp only [List.length_replicate, Int.zero_tmod, toIs_ii, ii_len, Int.zero_tdiv, w0, hA, nE, shl, shr, std, zE32, zE64, nc, nth_rd', i64w, u32_wrap, p32, p31, p63, w6432, toIs_len, set_toIs, repl_toIs, app_toIs, tos1, tos0, p1, take_toIs, drop_toIs, ieq_iff, ieq_iff', ilt_iff, ilt_iff', ile_iff, ile_iff', gt_iff_lt, ge_iff_le, Bool.not_eq_true', Bool.not_eq_false', List.drop_zero, Nat.sub_zero] at hz) <;> cbv
              · have hlt : e < t := by (try simp only [nc] at *); omega
                obtain ⟨t, rfl⟩ : ∃ t', t = t' + 1 := ⟨t - 1, by omega⟩
                obtain ⟨z, D, hD⟩ := drop_c (M := X) (k := t) (by omega)
                have hDl : D.length + t + 1 = X.length := by have := congrArg List.length hD; simp at this; omega
                have o1 : o = its (gs ((P ++ X.take t) ++ z :: y :: (D ++ S))) := by rw [ho, take_s hD, drop_s hD]; simp
                have o2 : o = its (gs (((P ++ X.take t) ++ [z]) ++ y :: (D ++ S))) := by rw [o1]; simp
                have lt : (X.take t).length = t := by rw [List.length_take]; omega
                have hol : o.length = P.length + X.length + 1 + S.length := by rw [o1, its_len, gs_len]; simp; omega
                have ea := toN hw2
                have eb : IntKind.i64.wrap (w' - 1) = ((P.length + t : Nat) : Int) := wpred hw2 (by omega)
                have tb := toN eb
                have ix1 : 0 ≤ w' ∧ w'.toNat < o.length := ⟨by rw [hw2]; exact Int.natCast_nonneg _, by rw [ea]; omega⟩
                have ix2 : 0 ≤ IntKind.i64.wrap (w' - 1) ∧ (IntKind.i64.wrap (w' - 1)).toNat < o.length := ⟨by rw [eb]; omega, by rw [tb]; omega⟩
                obtain ⟨k1, u1, w1⟩ := el3 (n := w'.toNat) o2 (by rw [ea]; simp; omega)
                obtain ⟨k2, u2, w2⟩ := el3 (n := (IntKind.i64.wrap (w' - 1)).toNat) o1 (by rw [tb]; simp; omega)
                refine ⟨by subst hA; exact ix2, by subst hA; exact ix1, by subst hA; exact ix1, by subst hA; simp only [std, setN, List.length_set]; exact ix2, t, by omega, ?_⟩
                cbv
                (iterate 2 apply Exists.intro); refine ⟨?_, ?_⟩; cbv
                subst hA
                refine ⟨t, eb, by omega, by omega, rfl, ?_⟩
                simp only [std, newElt, putC, FV.cells, elt, mkE, mkL, mk1, fit, fitL, fit1, k1, u1, w1, k2, u2, w2]
                have := swap_gs (Q := P ++ X.take t) (R := D ++ S) (z := z) (x := y) (i := w'.toNat) (j := (IntKind.i64.wrap (w' - 1)).toNat) (by rw [ea]; simp; omega) (by rw [tb]; simp; omega)
                rw [o1]
                refine this.trans ?_
                rw [hD]
                simp
              · have hte : t = e := by (try simp only [nc] at *); omega
                subst hte
                subst hA
                refine fin2 h rfl ?_
                have := sym2 cG_pre sX h1 h2 (by omega)
                rw [ho, ← this]
                simp [std]
      · have hpos : 2 ≤ X.length + Y.length := by omega
        have em := wmid' ha hb (by omega) (show (P.length + (P.length + X.length + Y.length)) / 2 = P.length + (X.length + Y.length) / 2 by omega)
        generalize hH : (X.length + Y.length) / 2 = H at em
        have hH1 : H ≤ X.length + Y.length := by omega
        have en := wadd em hm (by omega)
        rw [show P.length + H + (P.length + X.length) = 2 * P.length + X.length + H by omega] at en
        have ep := wpred (k := 2 * P.length + X.length + H - 1) (en.trans (by congr 1; omega)) (by omega)
        have es : Y.length ≤ H → IntKind.i64.wrap (IntKind.i64.wrap (IntKind.i64.wrap (IntKind.u64.wrap (IntKind.i64.wrap (a + b)) / 2 ^ min (Int.toNat 1) (IntKind.bits .u64)) + m) - b) = ((P.length + (H - Y.length) : Nat) : Int) := fun hh => (wsub en hb (by omega) (by omega)).trans (by congr 1; omega)
        have hmid : (A Int fun _ => IntKind.i64.wrap (A Int fun _ => (A Int fun _ => IntKind.u64.wrap (A Int fun _ => IntKind.i64.wrap (a + b))) / 2 ^ min (Int.toNat 1) (IntKind.bits .u64))) = ((P.length + H : Nat) : Int) := by rw [hA]; exact em
        refine ⟨by subst hA; exact (by decide : (0 : Int) ≤ 1), ?_⟩
        cbv
        split <;> rename_i hz3 <;> (try simp only [List.length_replicate, Int.zero_tmod, toIs_ii, ii_len, Int.zero_tdiv, w0, hA, nE, shl, shr, std, zE32, zE64, nc, nth_rd', i64w, u32_wrap, p32, p31, p63, w6432, toIs_len, set_toIs, repl_toIs, app_toIs, tos1, tos0, p1, take_toIs, drop_toIs, ieq_iff, ieq_iff', ilt_iff, ilt_iff', ile_iff, ile_iff', gt_iff_lt, ge_iff_le, Bool.not_eq_true', Bool.not_eq_false', List.drop_zero, Nat.sub_zero] at hz3) <;> (try simp only [← i64w] at hz3) <;> (try rw [em, hm] at hz3) <;> cbv
        · have hg : H < X.length := by (try simp only [nc] at *); omega
          refine loop_intro hA [(0, .own (.agg [.str, .int .u64, .int .u64])), (1, .keep), (2, .keep), (3, .keep), (4, .keep), (18, .keep), (19, .keep), (20, .keep), (21, .keep), (22, .keep)] (fun n s => ∃ mid nn w w' p, s = st [(0, .own 0 0), (1, .int .i64 a), (2, .int .i64 m), (3, .int .i64 b), (4, .fn 18 [] []), (18, .int .i64 mid), (19, .int .i64 nn), (20, .int .i64 w), (21, .int .i64 w'), (22, .int .i64 p)] [(0, ⟨0, true, .arr (.agg [.str, .int .u64, .int .u64]) false l⟩)] ∧
            (mid = ((P.length + H : Nat) : Int) ∧ nn = ((2 * P.length + X.length + H : Nat) : Int) ∧ p = ((2 * P.length + X.length + H - 1 : Nat) : Int)) ∧
            ∃ s e : Nat, w = ((P.length + s : Nat) : Int) ∧ w' = ((P.length + e : Nat) : Int) ∧ s ≤ e ∧ e ≤ X.length ∧ e ≤ H ∧ H ≤ s + Y.length ∧ n = e - s ∧
              (∀ z v, 0 < s → X[s - 1]? = some z → Y[H - s]? = some v → ¬ cG v z < 0) ∧ (∀ z v, e < H → X[e]? = some z → Y[H - 1 - e]? = some v → cG v z < 0)) (H - (H - Y.length)) ?_ ?_
          · cbv
            (iterate 5 apply Exists.intro); refine ⟨?_, ?_⟩; cbv
            subst hA
            refine ⟨⟨em, en, ep⟩, H - Y.length, H, es (by (try simp only [nc] at *); omega), em, by omega, by (try simp only [nc] at *); omega, Nat.le_refl _, by omega, by omega, fun z v h0 hx hy => absurd hy (by rw [List.getElem?_eq_none (by omega)]; simp), fun z v h0 => absurd h0 (Nat.lt_irrefl _)⟩
          · rintro n s ⟨mid, nn, w, w', p, rfl, ⟨hmd, hnn, hp⟩, s, e, hw, hw', hse, hex, heH, hHs, hn, h1, h2⟩
            cbv
            split <;> rename_i hz <;> (try simp only [List.length_replicate, Int.zero_tmod, toIs_ii, ii_len, Int.zero_tdiv, w0, hA, nE, shl, shr, std, zE32, zE64, nc, nth_rd', i64w, u32_wrap, p32, p31, p63, w6432, toIs_len, set_toIs, repl_toIs, app_toIs, tos1, tos0, p1, take_toIs, drop_toIs, ieq_iff, ieq_iff', ilt_iff, ilt_iff', ile_iff, ile_iff', gt_iff_lt, ge_iff_le, Bool.not_eq_true', Bool.not_eq_false', List.drop_zero, Nat.sub_zero] at hz) <;> cbv
            · have hlt : s < e := by (try simp only [nc] at *); omega
              have ew := wmid' hw hw' (by omega) (show (P.length + s + (P.length + e)) / 2 = P.length + (s + e) / 2 by omega)
              have hc : (s + e) / 2 < X.length := by omega
              have hd : H - 1 - (s + e) / 2 < Y.length := by omega
              generalize hC : (s + e) / 2 = C at ew hc hd
              have hC1 : s ≤ C ∧ C < e := by omega
              have tw := toN ew
              have ews := wsucc ew (by omega)
              have ev := wsub hp ew (by omega) (by omega)
              rw [show 2 * P.length + X.length + H - 1 - (P.length + C) = P.length + X.length + (H - 1 - C) by omega] at ev
              have tv := toN ev
              have ixw : 0 ≤ (IntKind.i64.wrap (IntKind.u64.wrap (IntKind.i64.wrap (w + w')) / 2 ^ min (Int.toNat 1) (IntKind.bits .u64))) ∧ (IntKind.i64.wrap (IntKind.u64.wrap (IntKind.i64.wrap (w + w')) / 2 ^ min (Int.toNat 1) (IntKind.bits .u64))).toNat < l.length := ⟨by rw [ew]; omega, by rw [tw]; omega⟩
              have ixv : 0 ≤ IntKind.i64.wrap (p - (IntKind.i64.wrap (IntKind.u64.wrap (IntKind.i64.wrap (w + w')) / 2 ^ min (Int.toNat 1) (IntKind.bits .u64)))) ∧ (IntKind.i64.wrap (p - (IntKind.i64.wrap (IntKind.u64.wrap (IntKind.i64.wrap (w + w')) / 2 ^ min (Int.toNat 1) (IntKind.bits .u64))))).toNat < l.length := ⟨by rw [ev]; omega, by rw [tv]; omega⟩
              obtain ⟨k1, u1, w1⟩ := elq hl (n := (IntKind.i64.wrap (p - (IntKind.i64.wrap (IntKind.u64.wrap (IntKind.i64.wrap (w + w')) / 2 ^ min (Int.toNat 1) (IntKind.bits .u64))))).toNat) (by rw [tv]; exact atY hd rfl)
              obtain ⟨k2, u2, w2⟩ := elq hl (n := (IntKind.i64.wrap (IntKind.u64.wrap (IntKind.i64.wrap (w + w')) / 2 ^ min (Int.toNat 1) (IntKind.bits .u64))).toNat) (by rw [tw]; exact atX hc rfl)
              refine ⟨by subst hA; exact (by decide : (0 : Int) ≤ 1), by subst hA; exact ixv, by subst hA; exact ixw, by subst hA; simp only [std, k1, u1, w1, k2, u2, w2]; exact ⟨(Y[H - 1 - C]'hd).2.1, (X[C]'hc).2.1⟩, ?_⟩
              cbv
              split <;> rename_i hz <;> (try simp only [List.length_replicate, Int.zero_tmod, toIs_ii, ii_len, Int.zero_tdiv, w0, hA, nE, shl, shr, std, zE32, zE64, nc, nth_rd', i64w, u32_wrap, p32, p31, p63, w6432, toIs_len, set_toIs, repl_toIs, app_toIs, tos1, tos0, p1, take_toIs, drop_toIs, ieq_iff, ieq_iff', ilt_iff, ilt_iff', ile_iff, ile_iff', gt_iff_lt, ge_iff_le, Bool.not_eq_true', Bool.not_eq_false', List.drop_zero, Nat.sub_zero] at hz) <;> (try simp only [← i64w] at hz) <;> cbv
              all_goals rw [k1, u1, w1, k2, u2, w2] at hz
              · refine ⟨e - (C + 1), by omega, ?_⟩
                cbv
                (iterate 5 apply Exists.intro); refine ⟨?_, ?_⟩; cbv
                subst hA
                refine ⟨⟨hmd, hnn, hp⟩, C + 1, e, ews, hw', by omega, hex, heH, by omega, rfl, fun z v _ hx hy => ?_, h2⟩
                rw [show H - (C + 1) = H - 1 - C by omega] at hy
                rw [at_some hc hx, at_some hd hy]; exact hz
              · refine ⟨C - s, by omega, ?_⟩
                cbv
                (iterate 5 apply Exists.intro); refine ⟨?_, ?_⟩; cbv
                subst hA
                refine ⟨⟨hmd, hnn, hp⟩, s, C, hw, ew, by omega, by omega, by omega, hHs, rfl, h1, fun z v _ hx hy => ?_⟩
                rw [at_some hc hx, at_some hd hy]; exact hz
            · have hse : e = s := by (try simp only [nc] at *); omega
              subst hse
              (try simp only [nc] at *)
              have d24 := wsub hnn hw (by omega) (by omega)
              rw [show 2 * P.length + X.length + H - (P.length + e) = P.length + X.length + (H - e) by omega] at d24
              have d24' : wrap64 (nn - w) = ((P.length + X.length + (H - e) : Nat) : Int) := (i64w _).symm.trans d24
              obtain ⟨X1, X2, Y1, Y2, eX, eY, lx1, lx2, ly1, ly2, sX1, sX2, sY1, sY2, slen, hfin⟩ := sym_cut sX sY hex heH hHs h1 h2
              clear h1 h2 em en es ep hmid e0 e1 sX sY hz hz2 hz3 hp hw' hn
              have lx3 : Y1.length = H - e := by omega
              rcases Nat.eq_zero_or_pos X1.length with z0 | z0
              · rcases Nat.eq_zero_or_pos X2.length with z1 | z1
                · rcases Nat.eq_zero_or_pos Y1.length with z2 | z2
                  · rcases Nat.eq_zero_or_pos Y2.length with z3 | z3
                    · exfalso; omega
                    · exfalso; omega
                  · rcases Nat.eq_zero_or_pos Y2.length with z3 | z3
                    · exfalso; omega
                    · exfalso; omega
                · rcases Nat.eq_zero_or_pos Y1.length with z2 | z2
                  · rcases Nat.eq_zero_or_pos Y2.length with z3 | z3
                    · exfalso; omega
                    · exfalso; omega
                  · rcases Nat.eq_zero_or_pos Y2.length with z3 | z3
                    · have g1 : w < m := by (try simp only [nc] at *); omega
                      have g2 : m < wrap64 (nn - w) := by (try simp only [nc] at *); omega
                      have g3 : ¬ (a < w) := by (try simp only [nc] at *); omega
                      have g4 : w < mid := by (try simp only [nc] at *); omega
                      have g5 : mid < wrap64 (nn - w) := by (try simp only [nc] at *); omega
                      have g6 : ¬ (wrap64 (nn - w) < b) := by (try simp only [nc] at *); omega
                      have nX1 : X1 = [] := List.eq_nil_of_length_eq_zero (by omega)
                      have nY2 : Y2 = [] := List.eq_nil_of_length_eq_zero (by omega)
                      have hs1 : X1 ++ Y1 = srt cG (X1 ++ Y1) := by rw [nX1]; simp only [List.append_nil, List.nil_append]; exact (srt_id cG_pre sY1).symm
                      have hs2 : X2 ++ Y2 = srt cG (X2 ++ Y2) := by rw [nY2]; simp only [List.append_nil, List.nil_append]; exact (srt_id cG_pre sX2).symm
                      repeat' (first | (refine And.intro (by (try simp only [List.length_replicate, Int.zero_tmod, toIs_ii, ii_len, Int.zero_tdiv, w0, hA, nE, shl, shr, std, zE32, zE64, nc, nth_rd', i64w, u32_wrap, p32, p31, p63, w6432, toIs_len, set_toIs, repl_toIs, app_toIs, tos1, tos0, p1, take_toIs, drop_toIs, ieq_iff, ieq_iff', ilt_iff, ilt_iff', ile_iff, ile_iff', gt_iff_lt, ge_iff_le, Bool.not_eq_true', Bool.not_eq_false', List.drop_zero, Nat.sub_zero]); first | done | exact ix ‹_› ‹_› | exact ix (Int.le_refl 0) ‹_› | decide | exact ap4 ‹_› | exact ap8 ‹_› | exact mk4 ‹_› ‹_› | exact mk8 ‹_› ‹_› | exact ix' ‹_› ‹_› | assumption | omega) ?_; cbv) | (split <;> rename_i hz <;> (try simp only [List.length_replicate, Int.zero_tmod, toIs_ii, ii_len, Int.zero_tdiv, w0, hA, nE, shl, shr, std, zE32, zE64, nc, nth_rd', i64w, u32_wrap, p32, p31, p63, w6432, toIs_len, set_toIs, repl_toIs, app_toIs, tos1, tos0, p1, take_toIs, drop_toIs, ieq_iff, ieq_iff', ilt_iff, ilt_iff', ile_iff, ile_iff', gt_iff_lt, ge_iff_le, Bool.not_eq_true', Bool.not_eq_false', List.drop_zero, Nat.sub_zero] at hz) <;> first | contradiction | cbv))
                      refine ⟨P ++ X1, X2, Y1, Y2 ++ S, ⟨by rw [hl, eX, eY]; simp, by rw [hw, List.length_append, lx1], by rw [hm, List.length_append]; congr 1; omega, ?_, by omega, by omega, by simp only [List.length_append]; omega⟩, ?_⟩
                      · rw [hA]; refine d24.trans ?_
                        rw [List.length_append]; congr 1; omega
                      cbv
                      repeat' (first | (refine And.intro (by (try simp only [List.length_replicate, Int.zero_tmod, toIs_ii, ii_len, Int.zero_tdiv, w0, hA, nE, shl, shr, std, zE32, zE64, nc, nth_rd', i64w, u32_wrap, p32, p31, p63, w6432, toIs_len, set_toIs, repl_toIs, app_toIs, tos1, tos0, p1, take_toIs, drop_toIs, ieq_iff, ieq_iff', ilt_iff, ilt_iff', ile_iff, ile_iff', gt_iff_lt, ge_iff_le, Bool.not_eq_true', Bool.not_eq_false', List.drop_zero, Nat.sub_zero]); first | done | exact ix ‹_› ‹_› | exact ix (Int.le_refl 0) ‹_› | decide | exact ap4 ‹_› | exact ap8 ‹_› | exact mk4 ‹_› ‹_› | exact mk8 ‹_› ‹_› | exact ix' ‹_› ‹_› | assumption | omega) ?_; cbv) | (split <;> rename_i hz <;> (try simp only [List.length_replicate, Int.zero_tmod, toIs_ii, ii_len, Int.zero_tdiv, w0, hA, nE, shl, shr, std, zE32, zE64, nc, nth_rd', i64w, u32_wrap, p32, p31, p63, w6432, toIs_len, set_toIs, repl_toIs, app_toIs, tos1, tos0, p1, take_toIs, drop_toIs, ieq_iff, ieq_iff', ilt_iff, ilt_iff', ile_iff, ile_iff', gt_iff_lt, ge_iff_le, Bool.not_eq_true', Bool.not_eq_false', List.drop_zero, Nat.sub_zero] at hz) <;> first | contradiction | cbv))
                      subst hA
                      refine fin2 h rfl ?_
                      rw [← hfin, ← hs2, ← hs1]; simp [std]
                    · have g1 : w < m := by (try simp only [nc] at *); omega
                      have g2 : m < wrap64 (nn - w) := by (try simp only [nc] at *); omega
                      have g3 : ¬ (a < w) := by (try simp only [nc] at *); omega
                      have g4 : w < mid := by (try simp only [nc] at *); omega
                      have g5 : mid < wrap64 (nn - w) := by (try simp only [nc] at *); omega
                      have g6 : wrap64 (nn - w) < b := by (try simp only [nc] at *); omega
                      have nX1 : X1 = [] := List.eq_nil_of_length_eq_zero (by omega)
                      have hs1 : X1 ++ Y1 = srt cG (X1 ++ Y1) := by rw [nX1]; simp only [List.append_nil, List.nil_append]; exact (srt_id cG_pre sY1).symm
                      repeat' (first | (refine And.intro (by (try simp only [List.length_replicate, Int.zero_tmod, toIs_ii, ii_len, Int.zero_tdiv, w0, hA, nE, shl, shr, std, zE32, zE64, nc, nth_rd', i64w, u32_wrap, p32, p31, p63, w6432, toIs_len, set_toIs, repl_toIs, app_toIs, tos1, tos0, p1, take_toIs, drop_toIs, ieq_iff, ieq_iff', ilt_iff, ilt_iff', ile_iff, ile_iff', gt_iff_lt, ge_iff_le, Bool.not_eq_true', Bool.not_eq_false', List.drop_zero, Nat.sub_zero]); first | done | exact ix ‹_› ‹_› | exact ix (Int.le_refl 0) ‹_› | decide | exact ap4 ‹_› | exact ap8 ‹_› | exact mk4 ‹_› ‹_› | exact mk8 ‹_› ‹_› | exact ix' ‹_› ‹_› | assumption | omega) ?_; cbv) | (split <;> rename_i hz <;> (try simp only [List.length_replicate, Int.zero_tmod, toIs_ii, ii_len, Int.zero_tdiv, w0, hA, nE, shl, shr, std, zE32, zE64, nc, nth_rd', i64w, u32_wrap, p32, p31, p63, w6432, toIs_len, set_toIs, repl_toIs, app_toIs, tos1, tos0, p1, take_toIs, drop_toIs, ieq_iff, ieq_iff', ilt_iff, ilt_iff', ile_iff, ile_iff', gt_iff_lt, ge_iff_le, Bool.not_eq_true', Bool.not_eq_false', List.drop_zero, Nat.sub_zero] at hz) <;> first | contradiction | cbv))
                      refine ⟨P ++ X1, X2, Y1, Y2 ++ S, ⟨by rw [hl, eX, eY]; simp, by rw [hw, List.length_append, lx1], by rw [hm, List.length_append]; congr 1; omega, ?_, by omega, by omega, by simp only [List.length_append]; omega⟩, ?_⟩
                      · rw [hA]; refine d24.trans ?_
                        rw [List.length_append]; congr 1; omega
                      cbv
                      repeat' (first | (refine And.intro (by (try simp only [List.length_replicate, Int.zero_tmod, toIs_ii, ii_len, Int.zero_tdiv, w0, hA, nE, shl, shr, std, zE32, zE64, nc, nth_rd', i64w, u32_wrap, p32, p31, p63, w6432, toIs_len, set_toIs, repl_toIs, app_toIs, tos1, tos0, p1, take_toIs, drop_toIs, ieq_iff, ieq_iff', ilt_iff, ilt_iff', ile_iff, ile_iff', gt_iff_lt, ge_iff_le, Bool.not_eq_true', Bool.not_eq_false', List.drop_zero, Nat.sub_zero]); first | done | exact ix ‹_› ‹_› | exact ix (Int.le_refl 0) ‹_› | decide | exact ap4 ‹_› | exact ap8 ‹_› | exact mk4 ‹_› ‹_› | exact mk8 ‹_› ‹_› | exact ix' ‹_› ‹_› | assumption | omega) ?_; cbv) | (split <;> rename_i hz <;> (try simp only [List.length_replicate, Int.zero_tmod, toIs_ii, ii_len, Int.zero_tdiv, w0, hA, nE, shl, shr, std, zE32, zE64, nc, nth_rd', i64w, u32_wrap, p32, p31, p63, w6432, toIs_len, set_toIs, repl_toIs, app_toIs, tos1, tos0, p1, take_toIs, drop_toIs, ieq_iff, ieq_iff', ilt_iff, ilt_iff', ile_iff, ile_iff', gt_iff_lt, ge_iff_le, Bool.not_eq_true', Bool.not_eq_false', List.drop_zero, Nat.sub_zero] at hz) <;> first | contradiction | cbv))
                      refine ⟨P ++ srt cG (X1 ++ Y1), X2, Y2, S, ⟨(by rw [hA, ← hs1]; simp [std]), by rw [hmd, List.length_append, slen], ?_, by rw [hb, List.length_append, slen]; congr 1; omega, by omega, by omega, by simp only [List.length_append, slen]; omega, sX2, sY2, by omega⟩, ?_⟩
                      · rw [hA]; refine d24.trans ?_
                        rw [List.length_append, slen]; congr 1; omega
                      cbv
                      subst hA
                      refine fin2 h rfl ?_
                      rw [← hfin, ← hs1]; simp [std]
              · rcases Nat.eq_zero_or_pos X2.length with z1 | z1
                · rcases Nat.eq_zero_or_pos Y1.length with z2 | z2
                  · rcases Nat.eq_zero_or_pos Y2.length with z3 | z3
                    · exfalso; omega
                    · have g1 : ¬ (w < m) := by (try simp only [nc] at *); omega
                      have g2 : ¬ (m < wrap64 (nn - w)) := by (try simp only [nc] at *); omega
                      have g3 : a < w := by (try simp only [nc] at *); omega
                      have g4 : ¬ (w < mid) := by (try simp only [nc] at *); omega
                      have g5 : ¬ (mid < wrap64 (nn - w)) := by (try simp only [nc] at *); omega
                      have g6 : wrap64 (nn - w) < b := by (try simp only [nc] at *); omega
                      have nX2 : X2 = [] := List.eq_nil_of_length_eq_zero (by omega)
                      have nY1 : Y1 = [] := List.eq_nil_of_length_eq_zero (by omega)
                      have hl1 : l = its (gs (P ++ (X1 ++ (Y1 ++ (X2 ++ (Y2 ++ S)))))) := by rw [hl, eX, eY, nX2]; simp
                      have hs1 : X1 ++ Y1 = srt cG (X1 ++ Y1) := by rw [nY1]; simp only [List.append_nil, List.nil_append]; exact (srt_id cG_pre sX1).symm
                      have hs2 : X2 ++ Y2 = srt cG (X2 ++ Y2) := by rw [nX2]; simp only [List.append_nil, List.nil_append]; exact (srt_id cG_pre sY2).symm
                      repeat' (first | (refine And.intro (by (try simp only [List.length_replicate, Int.zero_tmod, toIs_ii, ii_len, Int.zero_tdiv, w0, hA, nE, shl, shr, std, zE32, zE64, nc, nth_rd', i64w, u32_wrap, p32, p31, p63, w6432, toIs_len, set_toIs, repl_toIs, app_toIs, tos1, tos0, p1, take_toIs, drop_toIs, ieq_iff, ieq_iff', ilt_iff, ilt_iff', ile_iff, ile_iff', gt_iff_lt, ge_iff_le, Bool.not_eq_true', Bool.not_eq_false', List.drop_zero, Nat.sub_zero]); first | done | exact ix ‹_› ‹_› | exact ix (Int.le_refl 0) ‹_› | decide | exact ap4 ‹_› | exact ap8 ‹_› | exact mk4 ‹_› ‹_› | exact mk8 ‹_› ‹_› | exact ix' ‹_› ‹_› | assumption | omega) ?_; cbv) | (split <;> rename_i hz <;> (try simp only [List.length_replicate, Int.zero_tmod, toIs_ii, ii_len, Int.zero_tdiv, w0, hA, nE, shl, shr, std, zE32, zE64, nc, nth_rd', i64w, u32_wrap, p32, p31, p63, w6432, toIs_len, set_toIs, repl_toIs, app_toIs, tos1, tos0, p1, take_toIs, drop_toIs, ieq_iff, ieq_iff', ilt_iff, ilt_iff', ile_iff, ile_iff', gt_iff_lt, ge_iff_le, Bool.not_eq_true', Bool.not_eq_false', List.drop_zero, Nat.sub_zero] at hz) <;> first | contradiction | cbv))
                      subst hA
                      refine fin2 h rfl ?_
                      rw [← hfin, ← hs2, ← hs1, hl1]; simp [std]
                  · rcases Nat.eq_zero_or_pos Y2.length with z3 | z3
                    · exfalso; omega
                    · have g1 : ¬ (w < m) := by (try simp only [nc] at *); omega
                      have g2 : m < wrap64 (nn - w) := by (try simp only [nc] at *); omega
                      have g3 : a < w := by (try simp only [nc] at *); omega
                      have g4 : w < mid := by (try simp only [nc] at *); omega
                      have g5 : ¬ (mid < wrap64 (nn - w)) := by (try simp only [nc] at *); omega
                      have g6 : wrap64 (nn - w) < b := by (try simp only [nc] at *); omega
                      have nX2 : X2 = [] := List.eq_nil_of_length_eq_zero (by omega)
                      have hl1 : l = its (gs (P ++ (X1 ++ (Y1 ++ (X2 ++ (Y2 ++ S)))))) := by rw [hl, eX, eY, nX2]; simp
                      have hs2 : X2 ++ Y2 = srt cG (X2 ++ Y2) := by rw [nX2]; simp only [List.append_nil, List.nil_append]; exact (srt_id cG_pre sY2).symm
                      repeat' (first | (refine And.intro (by (try simp only [List.length_replicate, Int.zero_tmod, toIs_ii, ii_len, Int.zero_tdiv, w0, hA, nE, shl, shr, std, zE32, zE64, nc, nth_rd', i64w, u32_wrap, p32, p31, p63, w6432, toIs_len, set_toIs, repl_toIs, app_toIs, tos1, tos0, p1, take_toIs, drop_toIs, ieq_iff, ieq_iff', ilt_iff, ilt_iff', ile_iff, ile_iff', gt_iff_lt, ge_iff_le, Bool.not_eq_true', Bool.not_eq_false', List.drop_zero, Nat.sub_zero]); first | done | exact ix ‹_› ‹_› | exact ix (Int.le_refl 0) ‹_› | decide | exact ap4 ‹_› | exact ap8 ‹_› | exact mk4 ‹_› ‹_› | exact mk8 ‹_› ‹_› | exact ix' ‹_› ‹_› | assumption | omega) ?_; cbv) | (split <;> rename_i hz <;> (try simp only [List.length_replicate, Int.zero_tmod, toIs_ii, ii_len, Int.zero_tdiv, w0, hA, nE, shl, shr, std, zE32, zE64, nc, nth_rd', i64w, u32_wrap, p32, p31, p63, w6432, toIs_len, set_toIs, repl_toIs, app_toIs, tos1, tos0, p1, take_toIs, drop_toIs, ieq_iff, ieq_iff', ilt_iff, ilt_iff', ile_iff, ile_iff', gt_iff_lt, ge_iff_le, Bool.not_eq_true', Bool.not_eq_false', List.drop_zero, Nat.sub_zero] at hz) <;> first | contradiction | cbv))
                      refine ⟨P, X1, Y1, X2 ++ (Y2 ++ S), ⟨hl1, ha, by rw [hw, lx1], by rw [hmd]; congr 1; omega, by omega, by omega, by simp only [List.length_append]; omega, sX1, sY1, by omega⟩, ?_⟩
                      cbv
                      repeat' (first | (refine And.intro (by (try simp only [List.length_replicate, Int.zero_tmod, toIs_ii, ii_len, Int.zero_tdiv, w0, hA, nE, shl, shr, std, zE32, zE64, nc, nth_rd', i64w, u32_wrap, p32, p31, p63, w6432, toIs_len, set_toIs, repl_toIs, app_toIs, tos1, tos0, p1, take_toIs, drop_toIs, ieq_iff, ieq_iff', ilt_iff, ilt_iff', ile_iff, ile_iff', gt_iff_lt, ge_iff_le, Bool.not_eq_true', Bool.not_eq_false', List.drop_zero, Nat.sub_zero]); first | done | exact ix ‹_› ‹_› | exact ix (Int.le_refl 0) ‹_› | decide | exact ap4 ‹_› | exact ap8 ‹_› | exact mk4 ‹_› ‹_› | exact mk8 ‹_› ‹_› | exact ix' ‹_› ‹_› | assumption | omega) ?_; cbv) | (split <;> rename_i hz <;> (try simp only [List.length_replicate, Int.zero_tmod, toIs_ii, ii_len, Int.zero_tdiv, w0, hA, nE, shl, shr, std, zE32, zE64, nc, nth_rd', i64w, u32_wrap, p32, p31, p63, w6432, toIs_len, set_toIs, repl_toIs, app_toIs, tos1, tos0, p1, take_toIs, drop_toIs, ieq_iff, ieq_iff', ilt_iff, ilt_iff', ile_iff, ile_iff', gt_iff_lt, ge_iff_le, Bool.not_eq_true', Bool.not_eq_false', List.drop_zero, Nat.sub_zero] at hz) <;> first | contradiction | cbv))
                      subst hA
                      refine fin2 h rfl ?_
                      rw [← hfin, ← hs2]; simp [std]
                · rcases Nat.eq_zero_or_pos Y1.length with z2 | z2
                  · rcases Nat.eq_zero_or_pos Y2.length with z3 | z3
                    · exfalso; omega
                    · have g1 : w < m := by (try simp only [nc] at *); omega
                      have g2 : ¬ (m < wrap64 (nn - w)) := by (try simp only [nc] at *); omega
                      have g3 : a < w := by (try simp only [nc] at *); omega
                      have g4 : ¬ (w < mid) := by (try simp only [nc] at *); omega
                      have g5 : mid < wrap64 (nn - w) := by (try simp only [nc] at *); omega
                      have g6 : wrap64 (nn - w) < b := by (try simp only [nc] at *); omega
                      have nY1 : Y1 = [] := List.eq_nil_of_length_eq_zero (by omega)
                      have hl1 : l = its (gs (P ++ (X1 ++ (Y1 ++ (X2 ++ (Y2 ++ S)))))) := by rw [hl, eX, eY, nY1]; simp
                      have hs1 : X1 ++ Y1 = srt cG (X1 ++ Y1) := by rw [nY1]; simp only [List.append_nil, List.nil_append]; exact (srt_id cG_pre sX1).symm
                      repeat' (first | (refine And.intro (by (try simp only [List.length_replicate, Int.zero_tmod, toIs_ii, ii_len, Int.zero_tdiv, w0, hA, nE, shl, shr, std, zE32, zE64, nc, nth_rd', i64w, u32_wrap, p32, p31, p63, w6432, toIs_len, set_toIs, repl_toIs, app_toIs, tos1, tos0, p1, take_toIs, drop_toIs, ieq_iff, ieq_iff', ilt_iff, ilt_iff', ile_iff, ile_iff', gt_iff_lt, ge_iff_le, Bool.not_eq_true', Bool.not_eq_false', List.drop_zero, Nat.sub_zero]); first | done | exact ix ‹_› ‹_› | exact ix (Int.le_refl 0) ‹_› | decide | exact ap4 ‹_› | exact ap8 ‹_› | exact mk4 ‹_› ‹_› | exact mk8 ‹_› ‹_› | exact ix' ‹_› ‹_› | assumption | omega) ?_; cbv) | (split <;> rename_i hz <;> (try simp only [List.length_replicate, Int.zero_tmod, toIs_ii, ii_len, Int.zero_tdiv, w0, hA, nE, shl, shr, std, zE32, zE64, nc, nth_rd', i64w, u32_wrap, p32, p31, p63, w6432, toIs_len, set_toIs, repl_toIs, app_toIs, tos1, tos0, p1, take_toIs, drop_toIs, ieq_iff, ieq_iff', ilt_iff, ilt_iff', ile_iff, ile_iff', gt_iff_lt, ge_iff_le, Bool.not_eq_true', Bool.not_eq_false', List.drop_zero, Nat.sub_zero] at hz) <;> first | contradiction | cbv))
                      refine ⟨P ++ srt cG (X1 ++ Y1), X2, Y2, S, ⟨(by rw [hl1, ← hs1]; simp), by rw [hmd, List.length_append, slen], ?_, by rw [hb, List.length_append, slen]; congr 1; omega, by omega, by omega, by simp only [List.length_append, slen]; omega, sX2, sY2, by omega⟩, ?_⟩
                      · rw [hA]; refine d24.trans ?_
                        rw [List.length_append, slen]; congr 1; omega
                      cbv
                      subst hA
                      refine fin2 h rfl ?_
                      rw [← hfin, ← hs1]; simp [std]
                  · rcases Nat.eq_zero_or_pos Y2.length with z3 | z3
                    · have g1 : w < m := by (try simp only [nc] at *); omega
                      have g2 : m < wrap64 (nn - w) := by (try simp only [nc] at *); omega
                      have g3 : a < w := by (try simp only [nc] at *); omega
                      have g4 : w < mid := by (try simp only [nc] at *); omega
                      have g5 : mid < wrap64 (nn - w) := by (try simp only [nc] at *); omega
                      have g6 : ¬ (wrap64 (nn - w) < b) := by (try simp only [nc] at *); omega
                      have nY2 : Y2 = [] := List.eq_nil_of_length_eq_zero (by omega)
                      have hs2 : X2 ++ Y2 = srt cG (X2 ++ Y2) := by rw [nY2]; simp only [List.append_nil, List.nil_append]; exact (srt_id cG_pre sX2).symm
                      repeat' (first | (refine And.intro (by (try simp only [List.length_replicate, Int.zero_tmod, toIs_ii, ii_len, Int.zero_tdiv, w0, hA, nE, shl, shr, std, zE32, zE64, nc, nth_rd', i64w, u32_wrap, p32, p31, p63, w6432, toIs_len, set_toIs, repl_toIs, app_toIs, tos1, tos0, p1, take_toIs, drop_toIs, ieq_iff, ieq_iff', ilt_iff, ilt_iff', ile_iff, ile_iff', gt_iff_lt, ge_iff_le, Bool.not_eq_true', Bool.not_eq_false', List.drop_zero, Nat.sub_zero]); first | done | exact ix ‹_› ‹_› | exact ix (Int.le_refl 0) ‹_› | decide | exact ap4 ‹_› | exact ap8 ‹_› | exact mk4 ‹_› ‹_› | exact mk8 ‹_› ‹_› | exact ix' ‹_› ‹_› | assumption | omega) ?_; cbv) | (split <;> rename_i hz <;> (try simp only [List.length_replicate, Int.zero_tmod, toIs_ii, ii_len, Int.zero_tdiv, w0, hA, nE, shl, shr, std, zE32, zE64, nc, nth_rd', i64w, u32_wrap, p32, p31, p63, w6432, toIs_len, set_toIs, repl_toIs, app_toIs, tos1, tos0, p1, take_toIs, drop_toIs, ieq_iff, ieq_iff', ilt_iff, ilt_iff', ile_iff, ile_iff', gt_iff_lt, ge_iff_le, Bool.not_eq_true', Bool.not_eq_false', List.drop_zero, Nat.sub_zero] at hz) <;> first | contradiction | cbv))
                      refine ⟨P ++ X1, X2, Y1, Y2 ++ S, ⟨by rw [hl, eX, eY]; simp, by rw [hw, List.length_append, lx1], by rw [hm, List.length_append]; congr 1; omega, ?_, by omega, by omega, by simp only [List.length_append]; omega⟩, ?_⟩
                      · rw [hA]; refine d24.trans ?_
                        rw [List.length_append]; congr 1; omega
                      cbv
                      repeat' (first | (refine And.intro (by (try simp only [List.length_replicate, Int.zero_tmod, toIs_ii, ii_len, Int.zero_tdiv, w0, hA, nE, shl, shr, std, zE32, zE64, nc, nth_rd', i64w, u32_wrap, p32, p31, p63, w6432, toIs_len, set_toIs, repl_toIs, app_toIs, tos1, tos0, p1, take_toIs, drop_toIs, ieq_iff, ieq_iff', ilt_iff, ilt_iff', ile_iff, ile_iff', gt_iff_lt, ge_iff_le, Bool.not_eq_true', Bool.not_eq_false', List.drop_zero, Nat.sub_zero]); first | done | exact ix ‹_› ‹_› | exact ix (Int.le_refl 0) ‹_› | decide | exact ap4 ‹_› | exact ap8 ‹_› | exact mk4 ‹_› ‹_› | exact mk8 ‹_› ‹_› | exact ix' ‹_› ‹_› | assumption | omega) ?_; cbv) | (split <;> rename_i hz <;> (try simp only [List.length_replicate, Int.zero_tmod, toIs_ii, ii_len, Int.zero_tdiv, w0, hA, nE, shl, shr, std, zE32, zE64, nc, nth_rd', i64w, u32_wrap, p32, p31, p63, w6432, toIs_len, set_toIs, repl_toIs, app_toIs, tos1, tos0, p1, take_toIs, drop_toIs, ieq_iff, ieq_iff', ilt_iff, ilt_iff', ile_iff, ile_iff', gt_iff_lt, ge_iff_le, Bool.not_eq_true', Bool.not_eq_false', List.drop_zero, Nat.sub_zero] at hz) <;> first | contradiction | cbv))
                      refine ⟨P, X1, Y1, X2 ++ (Y2 ++ S), ⟨(by rw [hA]; simp [std]), ha, by rw [hw, lx1], by rw [hmd]; congr 1; omega, by omega, by omega, by simp only [List.length_append]; omega, sX1, sY1, by omega⟩, ?_⟩
                      cbv
                      repeat' (first | (refine And.intro (by (try simp only [List.length_replicate, Int.zero_tmod, toIs_ii, ii_len, Int.zero_tdiv, w0, hA, nE, shl, shr, std, zE32, zE64, nc, nth_rd', i64w, u32_wrap, p32, p31, p63, w6432, toIs_len, set_toIs, repl_toIs, app_toIs, tos1, tos0, p1, take_toIs, drop_toIs, ieq_iff, ieq_iff', ilt_iff, ilt_iff', ile_iff, ile_iff', gt_iff_lt, ge_iff_le, Bool.not_eq_true', Bool.not_eq_false', List.drop_zero, Nat.sub_zero]); first | done | exact ix ‹_› ‹_› | exact ix (Int.le_refl 0) ‹_› | decide | exact ap4 ‹_› | exact ap8 ‹_› | exact mk4 ‹_› ‹_› | exact mk8 ‹_› ‹_› | exact ix' ‹_› ‹_› | assumption | omega) ?_; cbv) | (split <;> rename_i hz <;> (try simp only [List.length_replicate, Int.zero_tmod, toIs_ii, ii_len, Int.zero_tdiv, w0, hA, nE, shl, shr, std, zE32, zE64, nc, nth_rd', i64w, u32_wrap, p32, p31, p63, w6432, toIs_len, set_toIs, repl_toIs, app_toIs, tos1, tos0, p1, take_toIs, drop_toIs, ieq_iff, ieq_iff', ilt_iff, ilt_iff', ile_iff, ile_iff', gt_iff_lt, ge_iff_le, Bool.not_eq_true', Bool.not_eq_false', List.drop_zero, Nat.sub_zero] at hz) <;> first | contradiction | cbv))
                      subst hA
                      refine fin2 h rfl ?_
                      rw [← hfin, ← hs2]; simp [std]
                    · have g1 : w < m := by (try simp only [nc] at *); omega
                      have g2 : m < wrap64 (nn - w) := by (try simp only [nc] at *); omega
                      have g3 : a < w := by (try simp only [nc] at *); omega
                      have g4 : w < mid := by (try simp only [nc] at *); omega
                      have g5 : mid < wrap64 (nn - w) := by (try simp only [nc] at *); omega
                      have g6 : wrap64 (nn - w) < b := by (try simp only [nc] at *); omega
                      repeat' (first | (refine And.intro (by (try simp only [List.length_replicate, Int.zero_tmod, toIs_ii, ii_len, Int.zero_tdiv, w0, hA, nE, shl, shr, std, zE32, zE64, nc, nth_rd', i64w, u32_wrap, p32, p31, p63, w6432, toIs_len, set_toIs, repl_toIs, app_toIs, tos1, tos0, p1, take_toIs, drop_toIs, ieq_iff, ieq_iff', ilt_iff, ilt_iff', ile_iff, ile_iff', gt_iff_lt, ge_iff_le, Bool.not_eq_true', Bool.not_eq_false', List.drop_zero, Nat.sub_zero]); first | done | exact ix ‹_› ‹_› | exact ix (Int.le_refl 0) ‹_› | decide | exact ap4 ‹_› | exact ap8 ‹_› | exact mk4 ‹_› ‹_› | exact mk8 ‹_› ‹_› | exact ix' ‹_› ‹_› | assumption | omega) ?_; cbv) | (split <;> rename_i hz <;> (try simp only [List.length_replicate, Int.zero_tmod, toIs_ii, ii_len, Int.zero_tdiv, w0, hA, nE, shl, shr, std, zE32, zE64, nc, nth_rd', i64w, u32_wrap, p32, p31, p63, w6432, toIs_len, set_toIs, repl_toIs, app_toIs, tos1, tos0, p1, take_toIs, drop_toIs, ieq_iff, ieq_iff', ilt_iff, ilt_iff', ile_iff, ile_iff', gt_iff_lt, ge_iff_le, Bool.not_eq_true', Bool.not_eq_false', List.drop_zero, Nat.sub_zero] at hz) <;> first | contradiction | cbv))
                      refine ⟨P ++ X1, X2, Y1, Y2 ++ S, ⟨by rw [hl, eX, eY]; simp, by rw [hw, List.length_append, lx1], by rw [hm, List.length_append]; congr 1; omega, ?_, by omega, by omega, by simp only [List.length_append]; omega⟩, ?_⟩
                      · rw [hA]; refine d24.trans ?_
                        rw [List.length_append]; congr 1; omega
                      cbv
                      repeat' (first | (refine And.intro (by (try simp only [List.length_replicate, Int.zero_tmod, toIs_ii, ii_len, Int.zero_tdiv, w0, hA, nE, shl, shr, std, zE32, zE64, nc, nth_rd', i64w, u32_wrap, p32, p31, p63, w6432, toIs_len, set_toIs, repl_toIs, app_toIs, tos1, tos0, p1, take_toIs, drop_toIs, ieq_iff, ieq_iff', ilt_iff, ilt_iff', ile_iff, ile_iff', gt_iff_lt, ge_iff_le, Bool.not_eq_true', Bool.not_eq_false', List.drop_zero, Nat.sub_zero]); first | done | exact ix ‹_› ‹_› | exact ix (Int.le_refl 0) ‹_› | decide | exact ap4 ‹_› | exact ap8 ‹_› | exact mk4 ‹_› ‹_› | exact mk8 ‹_› ‹_› | exact ix' ‹_› ‹_› | assumption | omega) ?_; cbv) | (split <;> rename_i hz <;> (try simp only [List.length_replicate, Int.zero_tmod, toIs_ii, ii_len, Int.zero_tdiv, w0, hA, nE, shl, shr, std, zE32, zE64, nc, nth_rd', i64w, u32_wrap, p32, p31, p63, w6432, toIs_len, set_toIs, repl_toIs, app_toIs, tos1, tos0, p1, take_toIs, drop_toIs, ieq_iff, ieq_iff', ilt_iff, ilt_iff', ile_iff, ile_iff', gt_iff_lt, ge_iff_le, Bool.not_eq_true', Bool.not_eq_false', List.drop_zero, Nat.sub_zero] at hz) <;> first | contradiction | cbv))
                      refine ⟨P, X1, Y1, X2 ++ (Y2 ++ S), ⟨(by rw [hA]; simp [std]), ha, by rw [hw, lx1], by rw [hmd]; congr 1; omega, by omega, by omega, by simp only [List.length_append]; omega, sX1, sY1, by omega⟩, ?_⟩
                      cbv
                      repeat' (first | (refine And.intro (by (try simp only [List.length_replicate, Int.zero_tmod, toIs_ii, ii_len, Int.zero_tdiv, w0, hA, nE, shl, shr, std, zE32, zE64, nc, nth_rd', i64w, u32_wrap, p32, p31, p63, w6432, toIs_len, set_toIs, repl_toIs, app_toIs, tos1, tos0, p1, take_toIs, drop_toIs, ieq_iff, ieq_iff', ilt_iff, ilt_iff', ile_iff, ile_iff', gt_iff_lt, ge_iff_le, Bool.not_eq_true', Bool.not_eq_false', List.drop_zero, Nat.sub_zero]); first | done | exact ix ‹_› ‹_› | exact ix (Int.le_refl 0) ‹_› | decide | exact ap4 ‹_› | exact ap8 ‹_› | exact mk4 ‹_› ‹_› | exact mk8 ‹_› ‹_› | exact ix' ‹_› ‹_› | assumption | omega) ?_; cbv) | (split <;> rename_i hz <;> (try simp only [List.length_replicate, Int.zero_tmod, toIs_ii, ii_len, Int.zero_tdiv, w0, hA, nE, shl, shr, std, zE32, zE64, nc, nth_rd', i64w, u32_wrap, p32, p31, p63, w6432, toIs_len, set_toIs, repl_toIs, app_toIs, tos1, tos0, p1, take_toIs, drop_toIs, ieq_iff, ieq_iff', ilt_iff, ilt_iff', ile_iff, ile_iff', gt_iff_lt, ge_iff_le, Bool.not_eq_true', Bool.not_eq_false', List.drop_zero, Nat.sub_zero] at hz) <;> first | contradiction | cbv))
                      refine ⟨P ++ srt cG (X1 ++ Y1), X2, Y2, S, ⟨(by rw [hA]; simp [std]), by rw [hmd, List.length_append, slen], ?_, by rw [hb, List.length_append, slen]; congr 1; omega, by omega, by omega, by simp only [List.length_append, slen]; omega, sX2, sY2, by omega⟩, ?_⟩
                      · rw [hA]; refine d24.trans ?_
                        rw [List.length_append, slen]; congr 1; omega
                      cbv
                      subst hA
                      refine fin2 h rfl ?_
                      rw [← hfin]; simp [std]
        · have hg : X.length ≤ H := by (try simp only [nc] at *); omega
          refine loop_intro hA [(0, .own (.agg [.str, .int .u64, .int .u64])), (1, .keep), (2, .keep), (3, .keep), (4, .keep), (18, .keep), (19, .keep), (20, .keep), (21, .keep), (22, .keep)] (fun n s => ∃ mid nn w w' p, s = st [(0, .own 0 0), (1, .int .i64 a), (2, .int .i64 m), (3, .int .i64 b), (4, .fn 18 [] []), (18, .int .i64 mid), (19, .int .i64 nn), (20, .int .i64 w), (21, .int .i64 w'), (22, .int .i64 p)] [(0, ⟨0, true, .arr (.agg [.str, .int .u64, .int .u64]) false l⟩)] ∧
            (mid = ((P.length + H : Nat) : Int) ∧ nn = ((2 * P.length + X.length + H : Nat) : Int) ∧ p = ((2 * P.length + X.length + H - 1 : Nat) : Int)) ∧
            ∃ s e : Nat, w = ((P.length + s : Nat) : Int) ∧ w' = ((P.length + e : Nat) : Int) ∧ s ≤ e ∧ e ≤ X.length ∧ e ≤ H ∧ H ≤ s + Y.length ∧ n = e - s ∧
              (∀ z v, 0 < s → X[s - 1]? = some z → Y[H - s]? = some v → ¬ cG v z < 0) ∧ (∀ z v, e < H → X[e]? = some z → Y[H - 1 - e]? = some v → cG v z < 0)) X.length ?_ ?_
          · cbv
            (iterate 5 apply Exists.intro); refine ⟨?_, ?_⟩; cbv
            subst hA
            refine ⟨⟨em, en, ep⟩, 0, X.length, ha, hm, by omega, Nat.le_refl _, by (try simp only [nc] at *); omega, by (try simp only [nc] at *); omega, by omega, fun z v h0 => absurd h0 (Nat.lt_irrefl _), fun z v h0 hx => absurd hx (by rw [List.getElem?_eq_none (by omega)]; simp)⟩
          · rintro n s ⟨mid, nn, w, w', p, rfl, ⟨hmd, hnn, hp⟩, s, e, hw, hw', hse, hex, heH, hHs, hn, h1, h2⟩
            cbv
            split <;> rename_i hz <;> (try simp only [List.length_replicate, Int.zero_tmod, toIs_ii, ii_len, Int.zero_tdiv, w0, hA, nE, shl, shr, std, zE32, zE64, nc, nth_rd', i64w, u32_wrap, p32, p31, p63, w6432, toIs_len, set_toIs, repl_toIs, app_toIs, tos1, tos0, p1, take_toIs, drop_toIs, ieq_iff, ieq_iff', ilt_iff, ilt_iff', ile_iff, ile_iff', gt_iff_lt, ge_iff_le, Bool.not_eq_true', Bool.not_eq_false', List.drop_zero, Nat.sub_zero] at hz) <;> cbv
            · have hlt : s < e := by (try simp only [nc] at *); omega
              have ew := wmid' hw hw' (by omega) (show (P.length + s + (P.length + e)) / 2 = P.length + (s + e) / 2 by omega)
              have hc : (s + e) / 2 < X.length := by omega
              have hd : H - 1 - (s + e) / 2 < Y.length := by omega
              generalize hC : (s + e) / 2 = C at ew hc hd
              have hC1 : s ≤ C ∧ C < e := by omega
              have tw := toN ew
              have ews := wsucc ew (by omega)
              have ev := wsub hp ew (by omega) (by omega)
              rw [show 2 * P.length + X.length + H - 1 - (P.length + C) = P.length + X.length + (H - 1 - C) by omega] at ev
              have tv := toN ev
              have ixw : 0 ≤ (IntKind.i64.wrap (IntKind.u64.wrap (IntKind.i64.wrap (w + w')) / 2 ^ min (Int.toNat 1) (IntKind.bits .u64))) ∧ (IntKind.i64.wrap (IntKind.u64.wrap (IntKind.i64.wrap (w + w')) / 2 ^ min (Int.toNat 1) (IntKind.bits .u64))).toNat < l.length := ⟨by rw [ew]; omega, by rw [tw]; omega⟩
              have ixv : 0 ≤ IntKind.i64.wrap (p - (IntKind.i64.wrap (IntKind.u64.wrap (IntKind.i64.wrap (w + w')) / 2 ^ min (Int.toNat 1) (IntKind.bits .u64)))) ∧ (IntKind.i64.wrap (p - (IntKind.i64.wrap (IntKind.u64.wrap (IntKind.i64.wrap (w + w')) / 2 ^ min (Int.toNat 1) (IntKind.bits .u64))))).toNat < l.length := ⟨by rw [ev]; omega, by rw [tv]; omega⟩
              obtain ⟨k1, u1, w1⟩ := elq hl (n := (IntKind.i64.wrap (p - (IntKind.i64.wrap (IntKind.u64.wrap (IntKind.i64.wrap (w + w')) / 2 ^ min (Int.toNat 1) (IntKind.bits .u64))))).toNat) (by rw [tv]; exact atY hd rfl)
              obtain ⟨k2, u2, w2⟩ := elq hl (n := (IntKind.i64.wrap (IntKind.u64.wrap (IntKind.i64.wrap (w + w')) / 2 ^ min (Int.toNat 1) (IntKind.bits .u64))).toNat) (by rw [tw]; exact atX hc rfl)
              refine ⟨by subst hA; exact (by decide : (0 : Int) ≤ 1), by subst hA; exact ixv, by subst hA; exact ixw, by subst hA; simp only [std, k1, u1, w1, k2, u2, w2]; exact ⟨(Y[H - 1 - C]'hd).2.1, (X[C]'hc).2.1⟩, ?_⟩
              cbv
              split <;> rename_i hz <;> (try simp only [List.length_replicate, Int.zero_tmod, toIs_ii, ii_len, Int.zero_tdiv, w0, hA, nE, shl, shr, std, zE32, zE64, nc, nth_rd', i64w, u32_wrap, p32, p31, p63, w6432, toIs_len, set_toIs, repl_toIs, app_toIs, tos1, tos0, p1, take_toIs, drop_toIs, ieq_iff, ieq_iff', ilt_iff, ilt_iff', ile_iff, ile_iff', gt_iff_lt, ge_iff_le, Bool.not_eq_true', Bool.not_eq_false', List.drop_zero, Nat.sub_zero] at hz) <;> (try simp only [← i64w] at hz) <;> cbv
              all_goals rw [k1, u1, w1, k2, u2, w2] at hz
              · refine ⟨e - (C + 1), by omega, ?_⟩
                cbv
                (iterate 5 apply Exists.intro); refine ⟨?_, ?_⟩; cbv
                subst hA
                refine ⟨⟨hmd, hnn, hp⟩, C + 1, e, ews, hw', by omega, hex, heH, by omega, rfl, fun z v _ hx hy => ?_, h2⟩
                rw [show H - (C + 1) = H - 1 - C by omega] at hy
                rw [at_some hc hx, at_some hd hy]; exact hz
              · refine ⟨C - s, by omega, ?_⟩
                cbv
                (iterate 5 apply Exists.intro); refine ⟨?_, ?_⟩; cbv
                subst hA
                refine ⟨⟨hmd, hnn, hp⟩, s, C, hw, ew, by omega, by omega, by omega, hHs, rfl, h1, fun z v _ hx hy => ?_⟩
                rw [at_some hc hx, at_some hd hy]; exact hz
            · have hse : e = s := by (try simp only [nc] at *); omega
              subst hse
              (try simp only [nc] at *)
              have d24 := wsub hnn hw (by omega) (by omega)
              rw [show 2 * P.length + X.length + H - (P.length + e) = P.length + X.length + (H - e) by omega] at d24
              have d24' : wrap64 (nn - w) = ((P.length + X.length + (H - e) : Nat) : Int) := (i64w _).symm.trans d24
              obtain ⟨X1, X2, Y1, Y2, eX, eY, lx1, lx2, ly1, ly2, sX1, sX2, sY1, sY2, slen, hfin⟩ := sym_cut sX sY hex heH hHs h1 h2
              clear h1 h2 em en es ep hmid e0 e1 sX sY hz hz2 hz3 hp hw' hn
              have lx3 : Y1.length = H - e := by omega
              rcases Nat.eq_zero_or_pos X1.length with z0 | z0
              · rcases Nat.eq_zero_or_pos X2.length with z1 | z1
                · rcases Nat.eq_zero_or_pos Y1.length with z2 | z2
                  · rcases Nat.eq_zero_or_pos Y2.length with z3 | z3
                    · exfalso; omega
                    · exfalso; omega
                  · rcases Nat.eq_zero_or_pos Y2.length with z3 | z3
                    · exfalso; omega
                    · exfalso; omega
                · rcases Nat.eq_zero_or_pos Y1.length with z2 | z2
                  · rcases Nat.eq_zero_or_pos Y2.length with z3 | z3
                    · exfalso; omega
                    · exfalso; omega
                  · rcases Nat.eq_zero_or_pos Y2.length with z3 | z3
                    · have g1 : w < m := by (try simp only [nc] at *); omega
                      have g2 : m < wrap64 (nn - w) := by (try simp only [nc] at *); omega
                      have g3 : ¬ (a < w) := by (try simp only [nc] at *); omega
                      have g4 : w < mid := by (try simp only [nc] at *); omega
                      have g5 : mid < wrap64 (nn - w) := by (try simp only [nc] at *); omega
                      have g6 : ¬ (wrap64 (nn - w) < b) := by (try simp only [nc] at *); omega
                      have nX1 : X1 = [] := List.eq_nil_of_length_eq_zero (by omega)
                      have nY2 : Y2 = [] := List.eq_nil_of_length_eq_zero (by omega)
                      have hs1 : X1 ++ Y1 = srt cG (X1 ++ Y1) := by rw [nX1]; simp only [List.append_nil, List.nil_append]; exact (srt_id cG_pre sY1).symm
                      have hs2 : X2 ++ Y2 = srt cG (X2 ++ Y2) := by rw [nY2]; simp only [List.append_nil, List.nil_append]; exact (srt_id cG_pre sX2).symm
                      repeat' (first | (refine And.intro (by (try simp only [List.length_replicate, Int.zero_tmod, toIs_ii, ii_len, Int.zero_tdiv, w0, hA, nE, shl, shr, std, zE32, zE64, nc, nth_rd', i64w, u32_wrap, p32, p31, p63, w6432, toIs_len, set_toIs, repl_toIs, app_toIs, tos1, tos0, p1, take_toIs, drop_toIs, ieq_iff, ieq_iff', ilt_iff, ilt_iff', ile_iff, ile_iff', gt_iff_lt, ge_iff_le, Bool.not_eq_true', Bool.not_eq_false', List.drop_zero, Nat.sub_zero]); first | done | exact ix ‹_› ‹_› | exact ix (Int.le_refl 0) ‹_› | decide | exact ap4 ‹_› | exact ap8 ‹_› | exact mk4 ‹_› ‹_› | exact mk8 ‹_› ‹_› | exact ix' ‹_› ‹_› | assumption | omega) ?_; cbv) | (split <;> rename_i hz <;> (try simp only [List.length_replicate, Int.zero_tmod, toIs_ii, ii_len, Int.zero_tdiv, w0, hA, nE, shl, shr, std, zE32, zE64, nc, nth_rd', i64w, u32_wrap, p32, p31, p63, w6432, toIs_len, set_toIs, repl_toIs, app_toIs, tos1, tos0, p1, take_toIs, drop_toIs, ieq_iff, ieq_iff', ilt_iff, ilt_iff', ile_iff, ile_iff', gt_iff_lt, ge_iff_le, Bool.not_eq_true', Bool.not_eq_false', List.drop_zero, Nat.sub_zero] at hz) <;> first | contradiction | cbv))
                      refine ⟨P ++ X1, X2, Y1, Y2 ++ S, ⟨by rw [hl, eX, eY]; simp, by rw [hw, List.length_append, lx1], by rw [hm, List.length_append]; congr 1; omega, ?_, by omega, by omega, by simp only [List.length_append]; omega⟩, ?_⟩
                      · rw [hA]; refine d24.trans ?_
                        rw [List.length_append]; congr 1; omega
                      cbv
                      repeat' (first | (refine And.intro (by (try simp only [List.length_replicate, Int.zero_tmod, toIs_ii, ii_len, Int.zero_tdiv, w0, hA, nE, shl, shr, std, zE32, zE64, nc, nth_rd', i64w, u32_wrap, p32, p31, p63, w6432, toIs_len, set_toIs, repl_toIs, app_toIs, tos1, tos0, p1, take_toIs, drop_toIs, ieq_iff, ieq_iff', ilt_iff, ilt_iff', ile_iff, ile_iff', gt_iff_lt, ge_iff_le, Bool.not_eq_true', Bool.not_eq_false', List.drop_zero, Nat.sub_zero]); first | done | exact ix ‹_› ‹_› | exact ix (Int.le_refl 0) ‹_› | decide | exact ap4 ‹_› | exact ap8 ‹_› | exact mk4 ‹_› ‹_› | exact mk8 ‹_› ‹_› | exact ix' ‹_› ‹_› | assumption | omega) ?_; cbv) | (split <;> rename_i hz <;> (try simp only [List.length_replicate, Int.zero_tmod, toIs_ii, ii_len, Int.zero_tdiv, w0, hA, nE, shl, shr, std, zE32, zE64, nc, nth_rd', i64w, u32_wrap, p32, p31, p63, w6432, toIs_len, set_toIs, repl_toIs, app_toIs, tos1, tos0, p1, take_toIs, drop_toIs, ieq_iff, ieq_iff', ilt_iff, ilt_iff', ile_iff, ile_iff', gt_iff_lt, ge_iff_le, Bool.not_eq_true', Bool.not_eq_false', List.drop_zero, Nat.sub_zero] at hz) <;> first | contradiction | cbv))
                      subst hA
                      refine fin2 h rfl ?_
                      rw [← hfin, ← hs2, ← hs1]; simp [std]
                    · have g1 : w < m := by (try simp only [nc] at *); omega
                      have g2 : m < wrap64 (nn - w) := by (try simp only [nc] at *); omega
                      have g3 : ¬ (a < w) := by (try simp only [nc] at *); omega
                      have g4 : w < mid := by (try simp only [nc] at *); omega
                      have g5 : mid < wrap64 (nn - w) := by (try simp only [nc] at *); omega
                      have g6 : wrap64 (nn - w) < b := by (try simp only [nc] at *); omega
                      have nX1 : X1 = [] := List.eq_nil_of_length_eq_zero (by omega)
                      have hs1 : X1 ++ Y1 = srt cG (X1 ++ Y1) := by rw [nX1]; simp only [List.append_nil, List.nil_append]; exact (srt_id cG_pre sY1).symm
                      repeat' (first | (refine And.intro (by (try simp only [List.length_replicate, Int.zero_tmod, toIs_ii, ii_len, Int.zero_tdiv, w0, hA, nE, shl, shr, std, zE32, zE64, nc, nth_rd', i64w, u32_wrap, p32, p31, p63, w6432, toIs_len, set_toIs, repl_toIs, app_toIs, tos1, tos0, p1, take_toIs, drop_toIs, ieq_iff, ieq_iff', ilt_iff, ilt_iff', ile_iff, ile_iff', gt_iff_lt, ge_iff_le, Bool.not_eq_true', Bool.not_eq_false', List.drop_zero, Nat.sub_zero]); first | done | exact ix ‹_› ‹_› | exact ix (Int.le_refl 0) ‹_› | decide | exact ap4 ‹_› | exact ap8 ‹_› | exact mk4 ‹_› ‹_› | exact mk8 ‹_› ‹_› | exact ix' ‹_› ‹_› | assumption | omega) ?_; cbv) | (split <;> rename_i hz <;> (try simp only [List.length_replicate, Int.zero_tmod, toIs_ii, ii_len, Int.zero_tdiv, w0, hA, nE, shl, shr, std, zE32, zE64, nc, nth_rd', i64w, u32_wrap, p32, p31, p63, w6432, toIs_len, set_toIs, repl_toIs, app_toIs, tos1, tos0, p1, take_toIs, drop_toIs, ieq_iff, ieq_iff', ilt_iff, ilt_iff', ile_iff, ile_iff', gt_iff_lt, ge_iff_le, Bool.not_eq_true', Bool.not_eq_false', List.drop_zero, Nat.sub_zero] at hz) <;> first | contradiction | cbv))
                      refine ⟨P ++ X1, X2, Y1, Y2 ++ S, ⟨by rw [hl, eX, eY]; simp, by rw [hw, List.length_append, lx1], by rw [hm, List.length_append]; congr 1; omega, ?_, by omega, by omega, by simp only [List.length_append]; omega⟩, ?_⟩
                      · rw [hA]; refine d24.trans ?_
                        rw [List.length_append]; congr 1; omega
                      cbv
                      repeat' (first | (refine And.intro (by (try simp only [List.length_replicate, Int.zero_tmod, toIs_ii, ii_len, Int.zero_tdiv, w0, hA, nE, shl, shr, std, zE32, zE64, nc, nth_rd', i64w, u32_wrap, p32, p31, p63, w6432, toIs_len, set_toIs, repl_toIs, app_toIs, tos1, tos0, p1, take_toIs, drop_toIs, ieq_iff, ieq_iff', ilt_iff, ilt_iff', ile_iff, ile_iff', gt_iff_lt, ge_iff_le, Bool.not_eq_true', Bool.not_eq_false', List.drop_zero, Nat.sub_zero]); first | done | exact ix ‹_› ‹_› | exact ix (Int.le_refl 0) ‹_› | decide | exact ap4 ‹_› | exact ap8 ‹_› | exact mk4 ‹_› ‹_› | exact mk8 ‹_› ‹_› | exact ix' ‹_› ‹_› | assumption | omega) ?_; cbv) | (split <;> rename_i hz <;> (try simp only [List.length_replicate, Int.zero_tmod, toIs_ii, ii_len, Int.zero_tdiv, w0, hA, nE, shl, shr, std, zE32, zE64, nc, nth_rd', i64w, u32_wrap, p32, p31, p63, w6432, toIs_len, set_toIs, repl_toIs, app_toIs, tos1, tos0, p1, take_toIs, drop_toIs, ieq_iff, ieq_iff', ilt_iff, ilt_iff', ile_iff, ile_iff', gt_iff_lt, ge_iff_le, Bool.not_eq_true', Bool.not_eq_false', List.drop_zero, Nat.sub_zero] at hz) <;> first | contradiction | cbv))
                      refine ⟨P ++ srt cG (X1 ++ Y1), X2, Y2, S, ⟨(by rw [hA, ← hs1]; simp [std]), by rw [hmd, List.length_append, slen], ?_, by rw [hb, List.length_append, slen]; congr 1; omega, by omega, by omega, by simp only [List.length_append, slen]; omega, sX2, sY2, by omega⟩, ?_⟩
                      · rw [hA]; refine d24.trans ?_
                        rw [List.length_append, slen]; congr 1; omega
                      cbv
                      subst hA
                      refine fin2 h rfl ?_
                      rw [← hfin, ← hs1]; simp [std]
              · rcases Nat.eq_zero_or_pos X2.length with z1 | z1
                · rcases Nat.eq_zero_or_pos Y1.length with z2 | z2
                  · rcases Nat.eq_zero_or_pos Y2.length with z3 | z3
                    · exfalso; omega
                    · have g1 : ¬ (w < m) := by (try simp only [nc] at *); omega
                      have g2 : ¬ (m < wrap64 (nn - w)) := by (try simp only [nc] at *); omega
                      have g3 : a < w := by (try simp only [nc] at *); omega
                      have g4 : ¬ (w < mid) := by (try simp only [nc] at *); omega
                      have g5 : ¬ (mid < wrap64 (nn - w)) := by (try simp only [nc] at *); omega
                      have g6 : wrap64 (nn - w) < b := by (try simp only [nc] at *); omega
                      have nX2 : X2 = [] := List.eq_nil_of_length_eq_zero (by omega)
                      have nY1 : Y1 = [] := List.eq_nil_of_length_eq_zero (by omega)
                      have hl1 : l = its (gs (P ++ (X1 ++ (Y1 ++ (X2 ++ (Y2 ++ S)))))) := by rw [hl, eX, eY, nX2]; simp
                      have hs1 : X1 ++ Y1 = srt cG (X1 ++ Y1) := by rw [nY1]; simp only [List.append_nil, List.nil_append]; exact (srt_id cG_pre sX1).symm
                      have hs2 : X2 ++ Y2 = srt cG (X2 ++ Y2) := by rw [nX2]; simp only [List.append_nil, List.nil_append]; exact (srt_id cG_pre sY2).symm
                      repeat' (first | (refine And.intro (by (try simp only [List.length_replicate, Int.zero_tmod, toIs_ii, ii_len, Int.zero_tdiv, w0, hA, nE, shl, shr, std, zE32, zE64, nc, nth_rd', i64w, u32_wrap, p32, p31, p63, w6432, toIs_len, set_toIs, repl_toIs, app_toIs, tos1, tos0, p1, take_toIs, drop_toIs, ieq_iff, ieq_iff', ilt_iff, ilt_iff', ile_iff, ile_iff', gt_iff_lt, ge_iff_le, Bool.not_eq_true', Bool.not_eq_false', List.drop_zero, Nat.sub_zero]); first | done | exact ix ‹_› ‹_› | exact ix (Int.le_refl 0) ‹_› | decide | exact ap4 ‹_› | exact ap8 ‹_› | exact mk4 ‹_› ‹_› | exact mk8 ‹_› ‹_› | exact ix' ‹_› ‹_› | assumption | omega) ?_; cbv) | (split <;> rename_i hz <;> (try simp only [List.length_replicate, Int.zero_tmod, toIs_ii, ii_len, Int.zero_tdiv, w0, hA, nE, shl, shr, std, zE32, zE64, nc, nth_rd', i64w, u32_wrap, p32, p31, p63, w6432, toIs_len, set_toIs, repl_toIs, app_toIs, tos1, tos0, p1, take_toIs, drop_toIs, ieq_iff, ieq_iff', ilt_iff, ilt_iff', ile_iff, ile_iff', gt_iff_lt, ge_iff_le, Bool.not_eq_true', Bool.not_eq_false', List.drop_zero, Nat.sub_zero] at hz) <;> first | contradiction | cbv))
                      subst hA
                      refine fin2 h rfl ?_
                      rw [← hfin, ← hs2, ← hs1, hl1]; simp [std]
                  · rcases Nat.eq_zero_or_pos Y2.length with z3 | z3
                    · exfalso; omega
                    · have g1 : ¬ (w < m) := by (try simp only [nc] at *); omega
                      have g2 : m < wrap64 (nn - w) := by (try simp only [nc] at *); omega
                      have g3 : a < w := by (try simp only [nc] at *); omega
                      have g4 : w < mid := by (try simp only [nc] at *); omega
                      have g5 : ¬ (mid < wrap64 (nn - w)) := by (try simp only [nc] at *); omega
                      have g6 : wrap64 (nn - w) < b := by (try simp only [nc] at *); omega
                      have nX2 : X2 = [] := List.eq_nil_of_length_eq_zero (by omega)
                      have hl1 : l = its (gs (P ++ (X1 ++ (Y1 ++ (X2 ++ (Y2 ++ S)))))) := by rw [hl, eX, eY, nX2]; simp
                      have hs2 : X2 ++ Y2 = srt cG (X2 ++ Y2) := by rw [nX2]; simp only [List.append_nil, List.nil_append]; exact (srt_id cG_pre sY2).symm
                      repeat' (first | (refine And.intro (by (try simp only [List.length_replicate, Int.zero_tmod, toIs_ii, ii_len, Int.zero_tdiv, w0, hA, nE, shl, shr, std, zE32, zE64, nc, nth_rd', i64w, u32_wrap, p32, p31, p63, w6432, toIs_len, set_toIs, repl_toIs, app_toIs, tos1, tos0, p1, take_toIs, drop_toIs, ieq_iff, ieq_iff', ilt_iff, ilt_iff', ile_iff, ile_iff', gt_iff_lt, ge_iff_le, Bool.not_eq_true', Bool.not_eq_false', List.drop_zero, Nat.sub_zero]); first | done | exact ix ‹_› ‹_› | exact ix (Int.le_refl 0) ‹_› | decide | exact ap4 ‹_› | exact ap8 ‹_› | exact mk4 ‹_› ‹_› | exact mk8 ‹_› ‹_› | exact ix' ‹_› ‹_› | assumption | omega) ?_; cbv) | (split <;> rename_i hz <;> (try simp only [List.length_replicate, Int.zero_tmod, toIs_ii, ii_len, Int.zero_tdiv, w0, hA, nE, shl, shr, std, zE32, zE64, nc, nth_rd', i64w, u32_wrap, p32, p31, p63, w6432, toIs_len, set_toIs, repl_toIs, app_toIs, tos1, tos0, p1, take_toIs, drop_toIs, ieq_iff, ieq_iff', ilt_iff, ilt_iff', ile_iff, ile_iff', gt_iff_lt, ge_iff_le, Bool.not_eq_true', Bool.not_eq_false', List.drop_zero, Nat.sub_zero] at hz) <;> first | contradiction | cbv))
                      refine ⟨P, X1, Y1, X2 ++ (Y2 ++ S), ⟨hl1, ha, by rw [hw, lx1], by rw [hmd]; congr 1; omega, by omega, by omega, by simp only [List.length_append]; omega, sX1, sY1, by omega⟩, ?_⟩
                      cbv
                      repeat' (first | (refine And.intro (by (try simp only [List.length_replicate, Int.zero_tmod, toIs_ii, ii_len, Int.zero_tdiv, w0, hA, nE, shl, shr, std, zE32, zE64, nc, nth_rd', i64w, u32_wrap, p32, p31, p63, w6432, toIs_len, set_toIs, repl_toIs, app_toIs, tos1, tos0, p1, take_toIs, drop_toIs, ieq_iff, ieq_iff', ilt_iff, ilt_iff', ile_iff, ile_iff', gt_iff_lt, ge_iff_le, Bool.not_eq_true', Bool.not_eq_false', List.drop_zero, Nat.sub_zero]); first | done | exact ix ‹_› ‹_› | exact ix (Int.le_refl 0) ‹_› | decide | exact ap4 ‹_› | exact ap8 ‹_› | exact mk4 ‹_› ‹_› | exact mk8 ‹_› ‹_› | exact ix' ‹_› ‹_› | assumption | omega) ?_; cbv) | (split <;> rename_i hz <;> (try simp only [List.length_replicate, Int.zero_tmod, toIs_ii, ii_len, Int.zero_tdiv, w0, hA, nE, shl, shr, std, zE32, zE64, nc, nth_rd', i64w, u32_wrap, p32, p31, p63, w6432, toIs_len, set_toIs, repl_toIs, app_toIs, tos1, tos0, p1, take_toIs, drop_toIs, ieq_iff, ieq_iff', ilt_iff, ilt_iff', ile_iff, ile_iff', gt_iff_lt, ge_iff_le, Bool.not_eq_true', Bool.not_eq_false', List.drop_zero, Nat.sub_zero] at hz) <;> first | contradiction | cbv))
                      subst hA
                      refine fin2 h rfl ?_
                      rw [← hfin, ← hs2]; simp [std]
                · rcases Nat.eq_zero_or_pos Y1.length with z2 | z2
                  · rcases Nat.eq_zero_or_pos Y2.length with z3 | z3
                    · exfalso; omega
                    · have g1 : w < m := by (try simp only [nc] at *); omega
                      have g2 : ¬ (m < wrap64 (nn - w)) := by (try simp only [nc] at *); omega
                      have g3 : a < w := by (try simp only [nc] at *); omega
                      have g4 : ¬ (w < mid) := by (try simp only [nc] at *); omega
                      have g5 : mid < wrap64 (nn - w) := by (try simp only [nc] at *); omega
                      have g6 : wrap64 (nn - w) < b := by (try simp only [nc] at *); omega
                      have nY1 : Y1 = [] := List.eq_nil_of_length_eq_zero (by omega)
                      have hl1 : l = its (gs (P ++ (X1 ++ (Y1 ++ (X2 ++ (Y2 ++ S)))))) := by rw [hl, eX, eY, nY1]; simp
                      have hs1 : X1 ++ Y1 = srt cG (X1 ++ Y1) := by rw [nY1]; simp only [List.append_nil, List.nil_append]; exact (srt_id cG_pre sX1).symm
                      repeat' (first | (refine And.intro (by (try simp only [List.length_replicate, Int.zero_tmod, toIs_ii, ii_len, Int.zero_tdiv, w0, hA, nE, shl, shr, std, zE32, zE64, nc, nth_rd', i64w, u32_wrap, p32, p31, p63, w6432, toIs_len, set_toIs, repl_toIs, app_toIs, tos1, tos0, p1, take_toIs, drop_toIs, ieq_iff, ieq_iff', ilt_iff, ilt_iff', ile_iff, ile_iff', gt_iff_lt, ge_iff_le, Bool.not_eq_true', Bool.not_eq_false', List.drop_zero, Nat.sub_zero]); first | done | exact ix ‹_› ‹_› | exact ix (Int.le_refl 0) ‹_› | decide | exact ap4 ‹_› | exact ap8 ‹_› | exact mk4 ‹_› ‹_› | exact mk8 ‹_› ‹_› | exact ix' ‹_› ‹_› | assumption | omega) ?_; cbv) | (split <;> rename_i hz <;> (try simp only [List.length_replicate, Int.zero_tmod, toIs_ii, ii_len, Int.zero_tdiv, w0, hA, nE, shl, shr, std, zE32, zE64, nc, nth_rd', i64w, u32_wrap, p32, p31, p63, w6432, toIs_len, set_toIs, repl_toIs, app_toIs, tos1, tos0, p1, take_toIs, drop_toIs, ieq_iff, ieq_iff', ilt_iff, ilt_iff', ile_iff, ile_iff', gt_iff_lt, ge_iff_le, Bool.not_eq_true', Bool.not_eq_false', List.drop_zero, Nat.sub_zero] at hz) <;> first | contradiction | cbv))
                      refine ⟨P ++ srt cG (X1 ++ Y1), X2, Y2, S, ⟨(by rw [hl1, ← hs1]; simp), by rw [hmd, List.length_append, slen], ?_, by rw [hb, List.length_append, slen]; congr 1; omega, by omega, by omega, by simp only [List.length_append, slen]; omega, sX2, sY2, by omega⟩, ?_⟩
                      · rw [hA]; refine d24.trans ?_
                        rw [List.length_append, slen]; congr 1; omega
                      cbv
                      subst hA
                      refine fin2 h rfl ?_
                      rw [← hfin, ← hs1]; simp [std]
                  · rcases Nat.eq_zero_or_pos Y2.length with z3 | z3
                    · have g1 : w < m := by (try simp only [nc] at *); omega
                      have g2 : m < wrap64 (nn - w) := by (try simp only [nc] at *); omega
                      have g3 : a < w := by (try simp only [nc] at *); omega
                      have g4 : w < mid := by (try simp only [nc] at *); omega
                      have g5 : mid < wrap64 (nn - w) := by (try simp only [nc] at *); omega
                      have g6 : ¬ (wrap64 (nn - w) < b) := by (try simp only [nc] at *); omega
                      have nY2 : Y2 = [] := List.eq_nil_of_length_eq_zero (by omega)
                      have hs2 : X2 ++ Y2 = srt cG (X2 ++ Y2) := by rw [nY2]; simp only [List.append_nil, List.nil_append]; exact (srt_id cG_pre sX2).symm
                      repeat' (first | (refine And.intro (by (try simp only [List.length_replicate, Int.zero_tmod, toIs_ii, ii_len, Int.zero_tdiv, w0, hA, nE, shl, shr, std, zE32, zE64, nc, nth_rd', i64w, u32_wrap, p32, p31, p63, w6432, toIs_len, set_toIs, repl_toIs, app_toIs, tos1, tos0, p1, take_toIs, drop_toIs, ieq_iff, ieq_iff', ilt_iff, ilt_iff', ile_iff, ile_iff', gt_iff_lt, ge_iff_le, Bool.not_eq_true', Bool.not_eq_false', List.drop_zero, Nat.sub_zero]); first | done | exact ix ‹_› ‹_› | exact ix (Int.le_refl 0) ‹_› | decide | exact ap4 ‹_› | exact ap8 ‹_› | exact mk4 ‹_› ‹_› | exact mk8 ‹_› ‹_› | exact ix' ‹_› ‹_› | assumption | omega) ?_; cbv) | (split <;> rename_i hz <;> (try simp only [List.length_replicate, Int.zero_tmod, toIs_ii, ii_len, Int.zero_tdiv, w0, hA, nE, shl, shr, std, zE32, zE64, nc, nth_rd', i64w, u32_wrap, p32, p31, p63, w6432, toIs_len, set_toIs, repl_toIs, app_toIs, tos1, tos0, p1, take_toIs, drop_toIs, ieq_iff, ieq_iff', ilt_iff, ilt_iff', ile_iff, ile_iff', gt_iff_lt, ge_iff_le, Bool.not_eq_true', Bool.not_eq_false', List.drop_zero, Nat.sub_zero] at hz) <;> first | contradiction | cbv))
                      refine ⟨P ++ X1, X2, Y1, Y2 ++ S, ⟨by rw [hl, eX, eY]; simp, by rw [hw, List.length_append, lx1], by rw [hm, List.length_append]; congr 1; omega, ?_, by omega, by omega, by simp only [List.length_append]; omega⟩, ?_⟩
                      · rw [hA]; refine d24.trans ?_
                        rw [List.length_append]; congr 1; omega
                      cbv
                      repeat' (first | (refine And.intro (by (try simp only [List.length_replicate, Int.zero_tmod, toIs_ii, ii_len, Int.zero_tdiv, w0, hA, nE, shl, shr, std, zE32, zE64, nc, nth_rd', i64w, u32_wrap, p32, p31, p63, w6432, toIs_len, set_toIs, repl_toIs, app_toIs, tos1, tos0, p1, take_toIs, drop_toIs, ieq_iff, ieq_iff', ilt_iff, ilt_iff', ile_iff, ile_iff', gt_iff_lt, ge_iff_le, Bool.not_eq_true', Bool.not_eq_false', List.drop_zero, Nat.sub_zero]); first | done | exact ix ‹_› ‹_› | exact ix (Int.le_refl 0) ‹_› | decide | exact ap4 ‹_› | exact ap8 ‹_› | exact mk4 ‹_› ‹_› | exact mk8 ‹_› ‹_› | exact ix' ‹_› ‹_› | assumption | omega) ?_; cbv) | (split <;> rename_i hz <;> (try simp only [List.length_replicate, Int.zero_tmod, toIs_ii, ii_len, Int.zero_tdiv, w0, hA, nE, shl, shr, std, zE32, zE64, nc, nth_rd', i64w, u32_wrap, p32, p31, p63, w6432, toIs_len, set_toIs, repl_toIs, app_toIs, tos1, tos0, p1, take_toIs, drop_toIs, ieq_iff, ieq_iff', ilt_iff, ilt_iff', ile_iff, ile_iff', gt_iff_lt, ge_iff_le, Bool.not_eq_true', Bool.not_eq_false', List.drop_zero, Nat.sub_zero] at hz) <;> first | contradiction | cbv))
                      refine ⟨P, X1, Y1, X2 ++ (Y2 ++ S), ⟨(by rw [hA]; simp [std]), ha, by rw [hw, lx1], by rw [hmd]; congr 1; omega, by omega, by omega, by simp only [List.length_append]; omega, sX1, sY1, by omega⟩, ?_⟩
                      cbv
                      repeat' (first | (refine And.intro (by (try simp only [List.length_replicate, Int.zero_tmod, toIs_ii, ii_len, Int.zero_tdiv, w0, hA, nE, shl, shr, std, zE32, zE64, nc, nth_rd', i64w, u32_wrap, p32, p31, p63, w6432, toIs_len, set_toIs, repl_toIs, app_toIs, tos1, tos0, p1, take_toIs, drop_toIs, ieq_iff, ieq_iff', ilt_iff, ilt_iff', ile_iff, ile_iff', gt_iff_lt, ge_iff_le, Bool.not_eq_true', Bool.not_eq_false', List.drop_zero, Nat.sub_zero]); first | done | exact ix ‹_› ‹_› | exact ix (Int.le_refl 0) ‹_› | decide | exact ap4 ‹_› | exact ap8 ‹_› | exact mk4 ‹_› ‹_› | exact mk8 ‹_› ‹_› | exact ix' ‹_› ‹_› | assumption | omega) ?_; cbv) | (split <;> rename_i hz <;> (try simp only [List.length_replicate, Int.zero_tmod, toIs_ii, ii_len, Int.zero_tdiv, w0, hA, nE, shl, shr, std, zE32, zE64, nc, nth_rd', i64w, u32_wrap, p32, p31, p63, w6432, toIs_len, set_toIs, repl_toIs, app_toIs, tos1, tos0, p1, take_toIs, drop_toIs, ieq_iff, ieq_iff', ilt_iff, ilt_iff', ile_iff, ile_iff', gt_iff_lt, ge_iff_le, Bool.not_eq_true', Bool.not_eq_false', List.drop_zero, Nat.sub_zero] at hz) <;> first | contradiction | cbv))
                      subst hA
                      refine fin2 h rfl ?_
                      rw [← hfin, ← hs2]; simp [std]
                    · have g1 : w < m := by (try simp only [nc] at *); omega
                      have g2 : m < wrap64 (nn - w) := by (try simp only [nc] at *); omega
                      have g3 : a < w := by (try simp only [nc] at *); omega
                      have g4 : w < mid := by (try simp only [nc] at *); omega
                      have g5 : mid < wrap64 (nn - w) := by (try simp only [nc] at *); omega
                      have g6 : wrap64 (nn - w) < b := by (try simp only [nc] at *); omega
                      repeat' (first | (refine And.intro (by (try simp only [List.length_replicate, Int.zero_tmod, toIs_ii, ii_len, Int.zero_tdiv, w0, hA, nE, shl, shr, std, zE32, zE64, nc, nth_rd', i64w, u32_wrap, p32, p31, p63, w6432, toIs_len, set_toIs, repl_toIs, app_toIs, tos1, tos0, p1, take_toIs, drop_toIs, ieq_iff, ieq_iff', ilt_iff, ilt_iff', ile_iff, ile_iff', gt_iff_lt, ge_iff_le, Bool.not_eq_true', Bool.not_eq_false', List.drop_zero, Nat.sub_zero]); first | done | exact ix ‹_› ‹_› | exact ix (Int.le_refl 0) ‹_› | decide | exact ap4 ‹_› | exact ap8 ‹_› | exact mk4 ‹_› ‹_› | exact mk8 ‹_› ‹_› | exact ix' ‹_› ‹_› | assumption | omega) ?_; cbv) | (split <;> rename_i hz <;> (try simp only [List.length_replicate, Int.zero_tmod, toIs_ii, ii_len, Int.zero_tdiv, w0, hA, nE, shl, shr, std, zE32, zE64, nc, nth_rd', i64w, u32_wrap, p32, p31, p63, w6432, toIs_len, set_toIs, repl_toIs, app_toIs, tos1, tos0, p1, take_toIs, drop_toIs, ieq_iff, ieq_iff', ilt_iff, ilt_iff', ile_iff, ile_iff', gt_iff_lt, ge_iff_le, Bool.not_eq_true', Bool.not_eq_false', List.drop_zero, Nat.sub_zero] at hz) <;> first | contradiction | cbv))
                      refine ⟨P ++ X1, X2, Y1, Y2 ++ S, ⟨by rw [hl, eX, eY]; simp, by rw [hw, List.length_append, lx1], by rw [hm, List.length_append]; congr 1; omega, ?_, by omega, by omega, by simp only [List.length_append]; omega⟩, ?_⟩
                      · rw [hA]; refine d24.trans ?_
                        rw [List.length_append]; congr 1; omega
                      cbv
                      repeat' (first | (refine And.intro (by (try simp only [List.length_replicate, Int.zero_tmod, toIs_ii, ii_len, Int.zero_tdiv, w0, hA, nE, shl, shr, std, zE32, zE64, nc, nth_rd', i64w, u32_wrap, p32, p31, p63, w6432, toIs_len, set_toIs, repl_toIs, app_toIs, tos1, tos0, p1, take_toIs, drop_toIs, ieq_iff, ieq_iff', ilt_iff, ilt_iff', ile_iff, ile_iff', gt_iff_lt, ge_iff_le, Bool.not_eq_true', Bool.not_eq_false', List.drop_zero, Nat.sub_zero]); first | done | exact ix ‹_› ‹_› | exact ix (Int.le_refl 0) ‹_› | decide | exact ap4 ‹_› | exact ap8 ‹_› | exact mk4 ‹_› ‹_› | exact mk8 ‹_› ‹_› | exact ix' ‹_› ‹_› | assumption | omega) ?_; cbv) | (split <;> rename_i hz <;> (try simp only [List.length_replicate, Int.zero_tmod, toIs_ii, ii_len, Int.zero_tdiv, w0, hA, nE, shl, shr, std, zE32, zE64, nc, nth_rd', i64w, u32_wrap, p32, p31, p63, w6432, toIs_len, set_toIs, repl_toIs, app_toIs, tos1, tos0, p1, take_toIs, drop_toIs, ieq_iff, ieq_iff', ilt_iff, ilt_iff', ile_iff, ile_iff', gt_iff_lt, ge_iff_le, Bool.not_eq_true', Bool.not_eq_false', List.drop_zero, Nat.sub_zero] at hz) <;> first | contradiction | cbv))
                      refine ⟨P, X1, Y1, X2 ++ (Y2 ++ S), ⟨(by rw [hA]; simp [std]), ha, by rw [hw, lx1], by rw [hmd]; congr 1; omega, by omega, by omega, by simp only [List.length_append]; omega, sX1, sY1, by omega⟩, ?_⟩
                      cbv
                      repeat' (first | (refine And.intro (by (try simp only [List.length_replicate, Int.zero_tmod, toIs_ii, ii_len, Int.zero_tdiv, w0, hA, nE, shl, shr, std, zE32, zE64, nc, nth_rd', i64w, u32_wrap, p32, p31, p63, w6432, toIs_len, set_toIs, repl_toIs, app_toIs, tos1, tos0, p1, take_toIs, drop_toIs, ieq_iff, ieq_iff', ilt_iff, ilt_iff', ile_iff, ile_iff', gt_iff_lt, ge_iff_le, Bool.not_eq_true', Bool.not_eq_false', List.drop_zero, Nat.sub_zero]); first | done | exact ix ‹_› ‹_› | exact ix (Int.le_refl 0) ‹_› | decide | exact ap4 ‹_› | exact ap8 ‹_› | exact mk4 ‹_› ‹_› | exact mk8 ‹_› ‹_› | exact ix' ‹_› ‹_› | assumption | omega) ?_; cbv) | (split <;> rename_i hz <;> (try simp only [List.length_replicate, Int.zero_tmod, toIs_ii, ii_len, Int.zero_tdiv, w0, hA, nE, shl, shr, std, zE32, zE64, nc, nth_rd', i64w, u32_wrap, p32, p31, p63, w6432, toIs_len, set_toIs, repl_toIs, app_toIs, tos1, tos0, p1, take_toIs, drop_toIs, ieq_iff, ieq_iff', ilt_iff, ilt_iff', ile_iff, ile_iff', gt_iff_lt, ge_iff_le, Bool.not_eq_true', Bool.not_eq_false', List.drop_zero, Nat.sub_zero] at hz) <;> first | contradiction | cbv))
                      refine ⟨P ++ srt cG (X1 ++ Y1), X2, Y2, S, ⟨(by rw [hA]; simp [std]), by rw [hmd, List.length_append, slen], ?_, by rw [hb, List.length_append, slen]; congr 1; omega, by omega, by omega, by simp only [List.length_append, slen]; omega, sX2, sY2, by omega⟩, ?_⟩
                      · rw [hA]; refine d24.trans ?_
                        rw [List.length_append, slen]; congr 1; omega
                      cbv
                      subst hA
                      refine fin2 h rfl ?_
                      rw [← hfin]; simp [std]
  · exact h.elim
end Go.Proofs.YtjipfimhmfhmhaaDoor.Z
