/- keep.Right over plain data: the walk. No condition but those that are written out. -/
import Derived.Test.YtmndbhgbngkakaaDoorKY
namespace Go.Proofs.YtmndbhgbngkakaaDoor.Z
open Go Go.RowKit Go.Proofs.YtmndbhgbngkakaaDoor.E Go.Proofs.YtmndbhgbngkakaaDoor.G
set_option linter.all false

set_option maxRecDepth 100000
set_option maxHeartbeats 4000000
theorem keyFlat_s (s : ByteArray) : keyFlat .string (.string s) = true := rfl
theorem right_walk {k : Int} {L : List It} (hL : ∀ x ∈ L, x.ok) (hn : L.length < 4611686018427387904) {H0 : Mem} {v : Value} (W : WF H0) (hv : RowAt H0 v L) :
    ∃ v' H', Gives EV 14 #[.int .i64 k, v] H0 v' H' ∧ (v' = .bool (rightB k L) ∧ Ev (fun _ => False) H0 H') := by
  obtain ⟨base, cap, rfl, hrow⟩ := hv
  have hs24 : tsz Tryd.prog 30 = some 3 := by kernel_rfl
  have hs9 : tsz Tryd.prog 9 = some 1 := by kernel_rfl
  have tz24 : tzero Tryd.prog 30 = some (.agg #[.string ByteArray.empty, .int .u64 0, .int .u64 0]) := by kernel_rfl
  have tz3 : tzero Tryd.prog 3 = some (.int .i64 0) := by kernel_rfl
  refine gives_WP (fn := Tryd.f14) rfl rfl Tryd.func14 rfl (by simp [Tryd.f14]) ?_
  by_cases hk : 1 ≤ k ∧ k ≤ 1024
  · by_cases hl : (L.length : Int) ≤ k + 1
    · have hw : IntKind.i64.wrap (k + 1) = k + 1 := by rw [i64w]; unfold wrap64; omega
      have hl' : ¬ k + 1 < (L.length : Int) := by omega
      simp [call_fits, hk.1, hk.2, hw, hl', WP_seq, WP_ret, WP_region, WP_block, WP_cond, WP_exit, WP_skip, catchX, evList, stepOne, opStep, evalO, putT, yieldT, Region.wanted, Tr.get_set, Tr.get, initT, ressV, resV, -Prod.exists, undef, flat, depth, builtinV, goInt, envP, Tryd.underlying22]
      refine WP_loop (I := fun n T H => ∃ i mid es c, n = L.length - i ∧ i ≤ L.length ∧ Ev (fun _ => False) H0 H ∧ H0.n ≤ mid ∧ mid < H.n ∧ H.getMap mid = some (es, c) ∧ Ent es ((L.take i).map It.key) ∧
        (T.get 0 = some (.int .i64 k) ∧ T.get 1 = some (.slice base L.length cap) ∧ T.get 5 = some (.map (some mid)) ∧ T.get 19 = some (.slice base L.length cap) ∧ T.get 20 = some (.int .i64 L.length) ∧ T.get 21 = some (.int .i64 (i : Int))) ∧ ∀ j, j < i → rightP L j) L.length ?_ ?_
      · refine ⟨0, H0.n, [], 0, by omega, by omega, Ev_newMap _ _, Nat.le_refl _, Nat.lt_succ_self _, map_newMap H0, .nil, ?_, fun j hj => by omega⟩
        simp [Tr.get_set, Tr.get, goInt]
      · rintro n T H ⟨i, mid, es, c, hni, hi, hev, hm0, hm1, hmap, hent, ⟨h0, h1, h5, h19, h20, h21⟩, hP⟩
        have WH := hev.wf W
        by_cases hil : i = L.length
        · subst hil
          simp [h20, h21, WP_seq, WP_ret, WP_region, WP_block, WP_cond, WP_exit, WP_skip, catchX, evList, stepOne, opStep, evalO, putT, yieldT, Region.wanted, Tr.get_set, Tr.get, initT, ressV, resV, -Prod.exists, undef, flat, depth, builtinV, goInt, envP, Tryd.underlying22]
          exact ⟨decide_eq_true (⟨hk, hl, hP⟩ : (1 ≤ k ∧ k ≤ 1024) ∧ (L.length : Int) ≤ k + 1 ∧ ∀ j, j < L.length → rightP L j), hev⟩
        · have hil : i < L.length := by omega
          obtain ⟨r, off, eb, hbase, hlive, hrd⟩ := hrow i hil
          subst hbase
          have hr0 : r < H0.n := live_lt W hlive
          have hrH : r < H.n := Nat.lt_of_lt_of_le hr0 hev.n
          have hne : r ≠ H.n := by omega
          have hkeep : ∀ o, rd H r o 3 = rd H0 r o 3 := fun o => by unfold rd; rw [hlive, hev.keep W r eb hlive (.inr id)]
          have hx := hL _ (gi_mem hil)
          have hrdi : rd H r (off + i * 3) 3 = some [Value.string (gi L i).key, Value.int IntKind.u64 (gi L i).u, Value.int IntKind.u64 (gi L i).w] := by rw [hkeep]; exact hrd
          have hfalse : ¬ rightP L i → rightB k L = false := fun h => decide_eq_false (fun h' : (1 ≤ k ∧ k ≤ 1024) ∧ (L.length : Int) ≤ k + 1 ∧ ∀ j, j < L.length → rightP L j => h (h'.2.2 i hil))
          have hPi : rightP L i = (chkIt ⟨(gi L i).key, (gi L i).u, (gi L i).w⟩ = 0 ∧ (gi L i).key ∉ (L.take i).map It.key ∧ (0 < i → cmpIt (gi L (i - 1)) ⟨(gi L i).key, (gi L i).u, (gi L i).w⟩ ≤ 0)) := rfl
          generalize hK : (gi L i).key = kx at *
          generalize hU : (gi L i).u = ux at *
          generalize hV : (gi L i).w = wx at *
          have hst := store_box (P := Tryd.prog) (t := 30) (z := [.string ByteArray.empty, .int .u64 0, .int .u64 0]) (cs := #[.string kx, .int .u64 ux, .int .u64 wx]) WH hs24 rfl rfl
          have hbx : rd (boxM H [.string kx, .int .u64 ux, .int .u64 wx]) H.n 0 3 = some [.string kx, .int .u64 ux, .int .u64 wx] := rd_box_self WH (by simp)
          have hbk : rd (boxM H [.string kx, .int .u64 ux, .int .u64 wx]) H.n 0 1 = some [.string kx] := rd_box_self WH (by simp)
          have hbm : (boxM H [.string kx, .int .u64 ux, .int .u64 wx]).getMap mid = some (es, c) := by rw [map_box _ hm1]; exact hmap
          have hbi : ∀ o, rd (boxM H [.string kx, .int .u64 ux, .int .u64 wx]) r o 3 = rd H0 r o 3 := fun o => by rw [rd_box WH _ hrH, hkeep]
          have hxo : It.ok ⟨kx, ux, wx⟩ := by rw [← hK, ← hU, ← hV]; exact hx
          have hch := fun n H => call_chk n (H := H) hxo
          have hfin : ∀ x, min H.low H.n ≤ x → Ev (fun _ => False) H0 (lowM (boxM H [.string kx, .int .u64 ux, .int .u64 wx]) x) := fun x hx' => (hev.trans (fun f h => h.elim) (Ev_box (fun _ => False) H _)).trans (fun f h => h.elim) (Ev_low (fun _ => False) fun m a b => Nat.le_trans a (show min H.low H.n ≤ x from hx'))
          have hbl : (boxM H [.string kx, .int .u64 ux, .int .u64 wx]).low = min H.low H.n := rfl
          by_cases hc0 : chkIt ⟨kx, ux, wx⟩ = 0
          · by_cases hmem : kx ∈ (L.take i).map It.key
            · have hfl := hent.flat
              obtain ⟨j, hj⟩ := Ent.in 0 hent hmem
              simp (maxSteps := 3000000) [h0, h1, h5, h19, h20, h21, hil, hrdi, hst, hbx, hbk, hbm, hbi, hch, hc0, hj, hfl, WP_seq, WP_ret, WP_region, WP_block, WP_cond, WP_exit, WP_skip, catchX, evList, stepOne, opStep, evalO, putT, yieldT, Region.wanted, Tr.get_set, Tr.get, initT, ressV, resV, -Prod.exists, undef, flat, depth, builtinV, goInt, envP, Tryd.underlying22, draw_cons, draw_nil, min_mr, lowM_n, lowM_low, lowM_lowM, rd_lowM, map_lowM, box_n, loadV, addrOf, isAggD, Value.cells, idx, hs24, hs9, tz24, tz3, Tryd.underlying30, Tryd.underlying9, Tryd.underlying57, Tryd.underlying3, entriesV, keyFlat_s, -List.all_eq_true, bne, int_beq, undef]
              exact ⟨hfalse (by rw [hPi]; exact fun h => h.2.1 hmem), hfin _ (by rw [hbl]; omega)⟩
            · have hfl := hent.flat
              have hj := Ent.out 0 hent hmem
              have hw1 : IntKind.i64.wrap 1 = 1 := by decide
              have hgo : ∀ x, min H.low H.n ≤ x → Ev (fun _ => False) H0 ((lowM (boxM H [.string kx, .int .u64 ux, .int .u64 wx]) x).putMap mid (es ++ [⟨.string kx, .int .i64 1, c⟩]) (c + 1)) := fun x hx' =>
                (hfin x hx').trans (fun f (h : f = mid) => .inr (by omega)) (Ev_putMap (r := mid) (es0 := es) (c0 := c) (by rw [map_lowM]; exact hbm))
              have htk : (L.take (i + 1)).map It.key = (L.take i).map It.key ++ [kx] := by rw [List.take_succ_eq_append_getElem hil, List.map_append, ← hK, gi_at hil]; rfl
              have hnx : IntKind.i64.wrap ((i : Int) + 1) = (i : Int) + 1 := by rw [i64w]; unfold wrap64; omega
              have hdone : rightP L i → ∀ j, j < i + 1 → rightP L j := fun h j hj => by
                rcases Nat.lt_or_ge j i with h' | h'
                · exact hP j h'
                · rw [show j = i by omega]; exact h
              rcases Nat.eq_zero_or_pos i with hi0 | hi0
              · subst hi0
                have hrd0 : rd H r off 3 = some [Value.string kx, Value.int IntKind.u64 ux, Value.int IntKind.u64 wx] := by simpa using hrdi
                simp (maxSteps := 3000000) [h0, h1, h5, h19, h20, h21, hil, hrdi, hrd0, hst, hbx, hbk, hbm, hbi, hch, hc0, hj, hfl, hw1, WP_seq, WP_ret, WP_region, WP_block, WP_cond, WP_exit, WP_skip, catchX, evList, stepOne, opStep, evalO, putT, yieldT, Region.wanted, Tr.get_set, Tr.get, initT, ressV, resV, -Prod.exists, undef, flat, depth, builtinV, goInt, envP, Tryd.underlying22, draw_cons, draw_nil, min_mr, lowM_n, lowM_low, lowM_lowM, rd_lowM, map_lowM, box_n, loadV, addrOf, isAggD, Value.cells, idx, hs24, hs9, tz24, tz3, Tryd.underlying30, Tryd.underlying9, Tryd.underlying57, Tryd.underlying3, entriesV, keyFlat_s, -List.all_eq_true, bne, int_beq, undef]
                refine ⟨L.length - (0 + 1), by omega, 0 + 1, rfl, by omega, hgo _ (by rw [hbl]; omega), mid, hm0, Nat.lt_succ_of_lt hm1, _, ⟨_, map_putMap⟩, ?_, ⟨rfl, rfl⟩, hdone ?_⟩
                · rw [← List.map_take, htk]
                  exact hent.snoc kx c
                · rw [hPi]
                  exact ⟨hc0, hmem, fun h => absurd h (by omega)⟩
              · obtain ⟨p, rfl⟩ : ∃ p, i = p + 1 := ⟨i - 1, by omega⟩
                have hpl : p < L.length := by omega
                have hp0 : (0 : Int) ≤ (p : Int) + 1 := by omega
                have hp1 : (p : Int) + 1 < (L.length : Int) := by omega
                obtain ⟨r', off', eb', hbase', _, hrdp⟩ := hrow p hpl
                cases hbase'
                have hwp : IntKind.i64.wrap (p : Int) = p := by rw [i64w]; unfold wrap64; omega
                have hcm : ∀ n H, evCall EV (n + 1) 18 #[.agg #[.string (gi L p).key, .int .u64 (gi L p).u, .int .u64 (gi L p).w], .agg #[.string kx, .int .u64 ux, .int .u64 wx]] H = some (.int .i64 (cmpIt (gi L p) ⟨kx, ux, wx⟩), H) := fun n H => call_cmp n (k := (gi L p).key) (u := (gi L p).u) (w := (gi L p).w) (hL _ (gi_mem hpl)) hxo H
                by_cases hcc : 0 < cmpIt (gi L p) ⟨kx, ux, wx⟩
                · simp (maxSteps := 3000000) [h0, h1, h5, h19, h20, h21, hil, hrdi, hst, hbx, hbk, hbm, hbi, hch, hc0, hj, hfl, hw1, hwp, hpl, hp0, hp1, hrdp, hcm, hcc, WP_seq, WP_ret, WP_region, WP_block, WP_cond, WP_exit, WP_skip, catchX, evList, stepOne, opStep, evalO, putT, yieldT, Region.wanted, Tr.get_set, Tr.get, initT, ressV, resV, -Prod.exists, undef, flat, depth, builtinV, goInt, envP, Tryd.underlying22, draw_cons, draw_nil, min_mr, lowM_n, lowM_low, lowM_lowM, rd_lowM, map_lowM, box_n, loadV, addrOf, isAggD, Value.cells, idx, hs24, hs9, tz24, tz3, Tryd.underlying30, Tryd.underlying9, Tryd.underlying57, Tryd.underlying3, entriesV, keyFlat_s, -List.all_eq_true, bne, int_beq, undef]
                  exact ⟨hfalse (by rw [hPi]; exact fun h => by have := h.2.2 hi0; rw [Nat.add_sub_cancel] at this; omega), hfin _ (by rw [hbl]; omega)⟩
                · simp (maxSteps := 3000000) [h0, h1, h5, h19, h20, h21, hil, hrdi, hst, hbx, hbk, hbm, hbi, hch, hc0, hj, hfl, hw1, hwp, hpl, hp0, hp1, hrdp, hcm, hcc, WP_seq, WP_ret, WP_region, WP_block, WP_cond, WP_exit, WP_skip, catchX, evList, stepOne, opStep, evalO, putT, yieldT, Region.wanted, Tr.get_set, Tr.get, initT, ressV, resV, -Prod.exists, undef, flat, depth, builtinV, goInt, envP, Tryd.underlying22, draw_cons, draw_nil, min_mr, lowM_n, lowM_low, lowM_lowM, rd_lowM, map_lowM, box_n, loadV, addrOf, isAggD, Value.cells, idx, hs24, hs9, tz24, tz3, Tryd.underlying30, Tryd.underlying9, Tryd.underlying57, Tryd.underlying3, entriesV, keyFlat_s, -List.all_eq_true, bne, int_beq, undef]
                  refine ⟨L.length - (p + 1 + 1), by omega, p + 1 + 1, rfl, by omega, hgo _ (by rw [hbl]; omega), mid, hm0, Nat.lt_succ_of_lt hm1, _, ⟨_, map_putMap⟩, ?_, ⟨rfl, ?_⟩, hdone ?_⟩
                  · rw [← List.map_take, htk]
                    exact hent.snoc kx c
                  · rw [show ((p : Int) + 1 + 1) = ((p + 1 : Nat) : Int) + 1 by omega, hnx]
                    omega
                  · rw [hPi]
                    exact ⟨hc0, hmem, fun _ => by rw [Nat.add_sub_cancel]; omega⟩
          · simp (maxSteps := 3000000) [h0, h1, h5, h19, h20, h21, hil, hrdi, hst, hbx, hbk, hbm, hbi, hch, hc0, WP_seq, WP_ret, WP_region, WP_block, WP_cond, WP_exit, WP_skip, catchX, evList, stepOne, opStep, evalO, putT, yieldT, Region.wanted, Tr.get_set, Tr.get, initT, ressV, resV, -Prod.exists, undef, flat, depth, builtinV, goInt, envP, Tryd.underlying22, draw_cons, draw_nil, min_mr, lowM_n, lowM_low, lowM_lowM, rd_lowM, map_lowM, box_n, loadV, addrOf, isAggD, Value.cells, idx, hs24, hs9, tz24, tz3, Tryd.underlying30, Tryd.underlying9, Tryd.underlying57, Tryd.underlying3, entriesV, keyFlat_s, -List.all_eq_true, bne, int_beq, undef]
            exact ⟨hfalse (by rw [hPi]; exact fun h => hc0 h.1), hfin _ (by rw [hbl]; omega)⟩
    · have hw : IntKind.i64.wrap (k + 1) = k + 1 := by rw [i64w]; unfold wrap64; omega
      have hl' : k + 1 < (L.length : Int) := by omega
      simp [call_fits, hk.1, hk.2, hw, hl', WP_seq, WP_ret, WP_region, WP_block, WP_cond, WP_exit, WP_skip, catchX, evList, stepOne, opStep, evalO, putT, yieldT, Region.wanted, Tr.get_set, Tr.get, initT, ressV, resV, -Prod.exists, undef, flat, depth, builtinV, goInt, envP, Tryd.underlying22]
      exact ⟨decide_eq_false (fun h : (1 ≤ k ∧ k ≤ 1024) ∧ (L.length : Int) ≤ k + 1 ∧ ∀ j, j < L.length → rightP L j => hl h.2.1), .refl _ _⟩
  · have hk' : decide (1 ≤ k ∧ k ≤ 1024) = false := decide_eq_false hk
    simp [call_fits, hk', WP_seq, WP_ret, WP_region, WP_block, WP_cond, WP_exit, WP_skip, catchX, evList, stepOne, opStep, evalO, putT, yieldT, Region.wanted, Tr.get_set, Tr.get, initT, ressV, resV, -Prod.exists, undef, flat, depth, builtinV, goInt, envP, Tryd.underlying22, -Bool.decide_and]
    exact ⟨decide_eq_false (fun h : (1 ≤ k ∧ k ≤ 1024) ∧ (L.length : Int) ≤ k + 1 ∧ ∀ j, j < L.length → rightP L j => hk h.1), .refl _ _⟩
def keepS (g : Lz → Int → List It → FV) (A : Lz) (args : List FV) (q : FV → FV → Prop) : Prop :=
  match args with
  | [.int .i64 k, .row (.agg [.str, .int .u64, .int .u64]) l] => ∃ L : List It, (l = its L ∧ (∀ x ∈ L, x.ok) ∧ L.length < 4611686018427387904) ∧ q (g A k L) .dead
  | _ => False
theorem kright_ok : SpecOk EV 14 ⟨false, keepS fun A k L => .bool (A _ fun _ => rightB k L)⟩ := by
  refine ⟨⟨_, Tryd.func14, rfl⟩, fun C xs vs i0 q ha hr => ?_⟩
  replace hr : keepS (fun A k L => .bool (A _ fun _ => rightB k L)) std xs q := hr
  unfold keepS at hr
  split at hr
  · rename_i k l
    obtain ⟨L, ⟨rfl, hL, hn⟩, hq⟩ := hr
    obtain ⟨hx, hw⟩ := ha.no rfl
    obtain ⟨v1, vs1, e1, f1, hx⟩ := hx.of_cons
    obtain ⟨v2, vs2, e2, f2, hx⟩ := hx.of_cons
    have e3 := hx.of_nil
    subst e3; subst e2
    have e4 : v1 = .int .i64 k := by cases f1; rfl
    subst e4
    have e5 : vs = #[.int .i64 k, v2] := Array.ext' e1
    subst e5
    obtain ⟨v', H', hg, rfl, hev⟩ := right_walk (k := k) hL hn ha.wf (rowAt f2)
    exact ⟨H', _, .bool (rightB k L), .dead, fun _ => False, hg, hev.weak (fun f h => h.elim), fun f h => h.elim, ⟨none, .bool _⟩, (fun h => by cases h), hq⟩
  · exact hr.elim
end Go.Proofs.YtmndbhgbngkakaaDoor.Z
