/- Items are sorted: two parts that lie side by side change places. No condition. -/
import Derived.Test.YtjipfimhmfhmhaaDoorJ4
namespace Go.Proofs.YtjipfimhmfhmhaaDoor.Z
open Go Go.RowKit Go.Proofs.YtjipfimhmfhmhaaDoor.E Go.Proofs.YtjipfimhmfhmhaaDoor.G Go.Proofs.YtjipfimhmfhmhaaDoor.K Go.Proofs.YtjipfimhmfhmhaaDoor.F Go.Proofs.YtjipfimhmfhmhaaDoor.M Go.Proofs.YtjipfimhmfhmhaaDoor.R
open Go.Proofs.YtjipfimhmfhmhaaDoorW.PrintWords hiding rd
set_option linter.all false

set_option maxRecDepth 100000
set_option maxHeartbeats 4000000
theorem ta {α : Type} (U X : List α) (n : Nat) : U.take n ++ (U.drop n ++ X) = U ++ X := by rw [← List.append_assoc, List.take_append_drop]
def rotRun (A : Lz) (args : List FV) (q : FV → FV → Prop) : Prop :=
  match args with
  | [.row (.agg [.str, .int .u64, .int .u64]) l, .int .i64 a, .int .i64 m, .int .i64 b, .fn 18 [] []] => ∃ P U V S : List Gi, (l = its (gs (P ++ (U ++ (V ++ S)))) ∧ a = P.length ∧ m = ((P.length + U.length : Nat) : Int) ∧ b = ((P.length + U.length + V.length : Nat) : Int) ∧ 0 < U.length ∧ 0 < V.length ∧ P.length + U.length + V.length + S.length < 4611686018427387904) ∧
      q (.tup []) (.row (.agg [.str, .int .u64, .int .u64]) (A _ fun _ => its (gs (P ++ (V ++ (U ++ S))))))
  | _ => False
theorem rot_ok : SpecOk EV 107 ⟨true, rotRun⟩ := by
  refine spec_go (.cons (f := 113) swp_ok (.nil _)) (fn := Tryd.f107) rfl rfl Tryd.func107 rfl true [] _ ?_
  intro A hA args q h
  unfold rotRun at h
  split at h
  · rename_i l a m b
    obtain ⟨P, U, V, S, ⟨hl, ha, hm, hb, hU, hV, hlen⟩, h⟩ := h
    have hlen' := hlen
    have e0 := wsub hm ha (by omega) (by omega)
    have e1 := wsub hb hm (by omega) (by omega)
    refine ⟨Nat.le_of_ble_eq_true rfl, ?_⟩
    cbv
    refine loop_intro hA [(0, .own (.agg [.str, .int .u64, .int .u64])), (2, .keep), (4, .keep), (10, .keep), (11, .keep)] (fun n s => ∃ o w w', s = st [(0, .own 0 0), (2, .int .i64 m), (4, .fn 18 [] []), (10, .int .i64 w), (11, .int .i64 w')] [(0, ⟨0, true, .arr (.agg [.str, .int .u64, .int .u64]) false o⟩)] ∧
        ∃ P' U' V' S' : List Gi, o = its (gs (P' ++ (U' ++ (V' ++ S')))) ∧ w = U'.length ∧ w' = V'.length ∧ m = ((P'.length + U'.length : Nat) : Int) ∧ 0 < U'.length ∧ 0 < V'.length ∧ P' ++ (V' ++ (U' ++ S')) = P ++ (V ++ (U ++ S)) ∧ P'.length + U'.length + V'.length + S'.length < 4611686018427387904 ∧ n = U'.length + V'.length) (U.length + V.length) ?_ ?_
    · cbv
      (iterate 3 apply Exists.intro); refine ⟨?_, ?_⟩; cbv
      subst hA
      refine ⟨P, U, V, S, hl, ?_, ?_, hm, hU, hV, rfl, hlen', rfl⟩
      · refine e0.trans ?_
        congr 1; omega
      · refine e1.trans ?_
        congr 1; omega
    · rintro n s ⟨o, w, w', rfl, P', U', V', S', ho, hw, hw', hm', hU', hV', hT, hlen2, hn⟩
      have hol : o.length = P'.length + U'.length + V'.length + S'.length := by
        rw [ho, its_len, gs_len]; simp; omega
      have d1 : IntKind.i64.wrap (m - w) = ((P'.length : Nat) : Int) := (wsub hm' hw (by omega) (by omega)).trans (by congr 1; omega)
      cbv
      split <;> rename_i hz <;> (try simp only [List.length_replicate, Int.zero_tmod, toIs_ii, ii_len, Int.zero_tdiv, w0, hA, nE, shl, shr, std, zE32, zE64, nc, nth_rd', i64w, u32_wrap, p32, p31, p63, w6432, toIs_len, set_toIs, repl_toIs, app_toIs, tos1, tos0, p1, take_toIs, drop_toIs, ieq_iff, ieq_iff', ilt_iff, ilt_iff', ile_iff, ile_iff', gt_iff_lt, ge_iff_le, Bool.not_eq_true', Bool.not_eq_false', List.drop_zero, Nat.sub_zero] at hz) <;> cbv
      · split <;> rename_i hz2 <;> (try simp only [List.length_replicate, Int.zero_tmod, toIs_ii, ii_len, Int.zero_tdiv, w0, hA, nE, shl, shr, std, zE32, zE64, nc, nth_rd', i64w, u32_wrap, p32, p31, p63, w6432, toIs_len, set_toIs, repl_toIs, app_toIs, tos1, tos0, p1, take_toIs, drop_toIs, ieq_iff, ieq_iff', ilt_iff, ilt_iff', ile_iff, ile_iff', gt_iff_lt, ge_iff_le, Bool.not_eq_true', Bool.not_eq_false', List.drop_zero, Nat.sub_zero] at hz2) <;> cbv
        · have hgt : V'.length < U'.length := by (try simp only [nc] at *); omega
          have d2 : IntKind.i64.wrap (w - w') = ((U'.length - V'.length : Nat) : Int) := wsub hw hw' (by omega) (by omega)
          have lu : (U'.take V'.length).length = V'.length := by rw [List.length_take]; omega
          have ld : (U'.drop V'.length).length = U'.length - V'.length := List.length_drop
          have ut : U'.take V'.length ++ U'.drop V'.length = U' := List.take_append_drop _ _
          refine ⟨P', U'.take V'.length, U'.drop V'.length, V', S', ⟨?_, ?_, ?_, ?_, ?_, ?_⟩, n - V'.length, by omega, ?_⟩
          · rw [ho, ta]
          · rw [hA]; exact d1
          · rw [hm']; congr 1; omega
          · rw [hw', lu]
          · exact lu.symm
          · omega
          · cbv
            (iterate 3 apply Exists.intro); refine ⟨?_, ?_⟩; cbv
            subst hA
            refine ⟨P' ++ V', U'.drop V'.length, U'.take V'.length, S', ?_, d2.trans (by rw [ld]), hw'.trans (by rw [lu]), ?_, by omega, by omega, ?_, ?_, ?_⟩
            · simp [std]
            · rw [hm', List.length_append, ld]; congr 1; omega
            · rw [ta, ← hT]; simp
            · rw [List.length_append, ld, lu]; omega
            · rw [ld, lu]; omega
        · have hlt : U'.length < V'.length := by (try simp only [nc] at *); omega
          have d2 : IntKind.i64.wrap (w' - w) = ((V'.length - U'.length : Nat) : Int) := wsub hw' hw (by omega) (by omega)
          have d3 : IntKind.i64.wrap (m + w') = ((P'.length + U'.length + V'.length : Nat) : Int) := wadd hm' hw' (by omega)
          have d4 : IntKind.i64.wrap (IntKind.i64.wrap (m + w') - w) = ((P'.length + V'.length : Nat) : Int) := (wsub d3 hw (by omega) (by omega)).trans (by congr 1; omega)
          have lt : (V'.take (V'.length - U'.length)).length = V'.length - U'.length := by rw [List.length_take]; omega
          have ld : (V'.drop (V'.length - U'.length)).length = U'.length := by rw [List.length_drop]; omega
          have vt : V'.take (V'.length - U'.length) ++ V'.drop (V'.length - U'.length) = V' := List.take_append_drop _ _
          refine ⟨P', U', V'.take (V'.length - U'.length), V'.drop (V'.length - U'.length), S', ⟨?_, ?_, ?_, ?_, ?_, ?_⟩, n - U'.length, by omega, ?_⟩
          · rw [ho, ta]
          · rw [hA]; exact d1
          · rw [hA]; refine d4.trans ?_
            rw [lt]; congr 1; omega
          · exact hw
          · exact ld
          · omega
          · cbv
            (iterate 3 apply Exists.intro); refine ⟨?_, ?_⟩; cbv
            subst hA
            refine ⟨P', V'.drop (V'.length - U'.length), V'.take (V'.length - U'.length), U' ++ S', ?_, hw.trans (by rw [ld]), d2.trans (by rw [lt]), ?_, by omega, by omega, ?_, ?_, ?_⟩
            · simp [std]
            · rw [hm', ld]
            · rw [ta, ← hT]
            · rw [List.length_append, ld, lt]; omega
            · rw [ld, lt]; omega
      · have heq : U'.length = V'.length := by (try simp only [nc] at *); omega
        refine ⟨P', U', [], V', S', ⟨?_, ?_, ?_, ?_, ?_, ?_⟩, ?_⟩
        · rw [ho]; simp
        · rw [hA]; exact d1
        · exact hm'
        · exact hw
        · exact heq.symm
        · simp only [List.length_nil]; omega
        · cbv
          subst hA
          refine fin2 h rfl ?_
          rw [← hT]
          simp [std]
  · exact h.elim
end Go.Proofs.YtjipfimhmfhmhaaDoor.Z
