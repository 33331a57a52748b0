/- Items are sorted: parts of a list change places. No condition. -/
import Derived.Test.YtjipfimhmfhmhaaDoorJ3
import Derived.Test.YtjipfimhmfhmhaaDoorSJ
namespace Go.Proofs.YtjipfimhmfhmhaaDoor.Z
open Go Go.RowKit Go.Proofs.YtjipfimhmfhmhaaDoor.E Go.Proofs.YtjipfimhmfhmhaaDoor.G Go.Proofs.YtjipfimhmfhmhaaDoor.K Go.Proofs.YtjipfimhmfhmhaaDoor.F Go.Proofs.YtjipfimhmfhmhaaDoor.M Go.Proofs.YtjipfimhmfhmhaaDoor.R
open Go.Proofs.YtjipfimhmfhmhaaDoorW.PrintWords hiding rd
set_option linter.all false

set_option maxRecDepth 100000
set_option maxHeartbeats 4000000
theorem swap2_gs {X Z Y : List Gi} {u v : Gi} {o : List FV} {i j : Nat} (ho : o = its (gs (X ++ u :: (Z ++ v :: Y)))) (hi : i = X.length) (hj : j = X.length + 1 + Z.length) :
    setN (setN o i (itF v.1)) j (itF u.1) = its (gs (X ++ v :: (Z ++ u :: Y))) := by
  rw [ho, its_set, its_set, set_gs hi]
  have e1 : X ++ v :: (Z ++ v :: Y) = (X ++ v :: Z) ++ v :: Y := by simp
  have e2 : X ++ v :: (Z ++ u :: Y) = (X ++ v :: Z) ++ u :: Y := by simp
  rw [e1, e2, set_gs (by simp; omega)]
theorem wadd {a b : Int} {m k : Nat} (h : a = m) (h' : b = k) (hk : m + k < 9223372036854775807) : IntKind.i64.wrap (a + b) = ((m + k : Nat) : Int) := by rw [i64w, h, h']; unfold wrap64; omega
theorem wsub {a b : Int} {m k : Nat} (h : a = m) (h' : b = k) (hk : k ≤ m) (hm : m < 9223372036854775807) : IntKind.i64.wrap (a - b) = ((m - k : Nat) : Int) := by rw [i64w, h, h']; unfold wrap64; omega
theorem take_s {α : Type} {M D : List α} {x : α} {k : Nat} (h : M.drop k = x :: D) : M.take (k + 1) = M.take k ++ [x] := by rw [List.take_add, h]; rfl
theorem drop_s {α : Type} {M D : List α} {x : α} {k : Nat} (h : M.drop k = x :: D) : M.drop (k + 1) = D := by rw [← List.drop_drop, h]; rfl
theorem drop_c {α : Type} {M : List α} {k : Nat} (h : k < M.length) : ∃ x D, M.drop k = x :: D := ⟨_, _, List.drop_eq_getElem_cons h⟩
def swpRun (A : Lz) (args : List FV) (q : FV → FV → Prop) : Prop :=
  match args with
  | [.row (.agg [.str, .int .u64, .int .u64]) l, .int .i64 a, .int .i64 b, .int .i64 n, .fn 18 [] []] => ∃ P U Q V S : List Gi, (l = its (gs (P ++ (U ++ (Q ++ (V ++ S))))) ∧ a = P.length ∧ b = ((P.length + U.length + Q.length : Nat) : Int) ∧ n = U.length ∧ V.length = U.length ∧ P.length + U.length + Q.length + V.length + S.length < 4611686018427387904) ∧
      q (.tup []) (.row (.agg [.str, .int .u64, .int .u64]) (A _ fun _ => its (gs (P ++ (V ++ (Q ++ (U ++ S)))))))
  | _ => False
theorem swp_ok : SpecOk EV 113 ⟨true, swpRun⟩ := by
  refine spec_go (.nil _) (fn := Tryd.f113) rfl rfl Tryd.func113 rfl true [] _ ?_
  intro A hA args q h
  unfold swpRun at h
  split at h
  · rename_i l a b c
    obtain ⟨P, U, Q, V, S, ⟨hl, ha, hb, hc, hV, hlen⟩, h⟩ := h
    have hlen' := hlen
    refine ⟨Nat.le_of_ble_eq_true rfl, ?_⟩
    cbv
    refine loop_intro hA [(0, .own (.agg [.str, .int .u64, .int .u64])), (1, .keep), (2, .keep), (3, .keep), (4, .keep), (10, .keep)] (fun n s => ∃ o w, s = st [(0, .own 0 0), (1, .int .i64 a), (2, .int .i64 b), (3, .int .i64 c), (4, .fn 18 [] []), (10, .int .i64 w)] [(0, ⟨0, true, .arr (.agg [.str, .int .u64, .int .u64]) false o⟩)] ∧
        ∃ k : Nat, w = k ∧ n + k = U.length ∧ o = its (gs (P ++ (V.take k ++ (U.drop k ++ (Q ++ (U.take k ++ (V.drop k ++ S)))))))) U.length ?_ ?_
    · cbv
      (iterate 2 apply Exists.intro); refine ⟨?_, ?_⟩; cbv
      exact ⟨0, rfl, rfl, by simp [hl]⟩
    · rintro n s ⟨o, w, rfl, k, hw, hn, ho⟩
      cbv
      split <;> rename_i hz <;> (try simp only [List.length_replicate, Int.zero_tmod, toIs_ii, ii_len, Int.zero_tdiv, w0, hA, nE, shl, shr, std, zE32, zE64, nc, nth_rd', i64w, u32_wrap, p32, p31, p63, w6432, toIs_len, set_toIs, repl_toIs, app_toIs, tos1, tos0, p1, take_toIs, drop_toIs, ieq_iff, ieq_iff', ilt_iff, ilt_iff', ile_iff, ile_iff', gt_iff_lt, ge_iff_le, Bool.not_eq_true', Bool.not_eq_false', List.drop_zero, Nat.sub_zero] at hz) <;> cbv
      · have hk : k < U.length := by (try simp only [nc] at *); omega
        obtain ⟨u, U', hU⟩ := drop_c hk
        obtain ⟨v, V', hV'⟩ := drop_c (M := V) (k := k) (by omega)
        have hUl : U'.length + k + 1 = U.length := by have := congrArg List.length hU; simp at this; omega
        have hVl : V'.length + k + 1 = V.length := by have := congrArg List.length hV'; simp at this; omega
        have hol : o.length = P.length + U.length + Q.length + V.length + S.length := by
          rw [ho, its_len, gs_len]; simp; omega
        have o1 : o = its (gs ((P ++ V.take k) ++ u :: ((U' ++ (Q ++ U.take k)) ++ v :: (V' ++ S)))) := by rw [ho, hU, hV']; simp
        have o2 : o = its (gs (((P ++ V.take k) ++ u :: (U' ++ (Q ++ U.take k))) ++ v :: (V' ++ S))) := by rw [o1]; simp
        have lt : (V.take k).length = k := by rw [List.length_take]; omega
        have lu : (U.take k).length = k := by rw [List.length_take]; omega
        have ea : IntKind.i64.wrap (a + w) = ((P.length + k : Nat) : Int) := wadd ha hw (by omega)
        have eb : IntKind.i64.wrap (b + w) = ((P.length + U.length + Q.length + k : Nat) : Int) := wadd hb hw (by omega)
        have ta := toN ea
        have tb := toN eb
        have ix1 : 0 ≤ IntKind.i64.wrap (a + w) ∧ (IntKind.i64.wrap (a + w)).toNat < o.length := ⟨by rw [ea]; omega, by rw [ta]; omega⟩
        have ix2 : 0 ≤ IntKind.i64.wrap (b + w) ∧ (IntKind.i64.wrap (b + w)).toNat < o.length := ⟨by rw [eb]; omega, by rw [tb]; omega⟩
        obtain ⟨k1, u1, w1⟩ := el3 (n := (IntKind.i64.wrap (a + w)).toNat) o1 (by rw [ta]; simp; omega)
        obtain ⟨k2, u2, w2⟩ := el3 (n := (IntKind.i64.wrap (b + w)).toNat) o2 (by rw [tb]; simp; omega)
        try simp only [nc] at *
        refine ⟨by subst hA; exact ix2, by subst hA; exact ix1, by subst hA; exact ix1, by subst hA; simp only [std, setN, List.length_set]; exact ix2, n - 1, by omega, ?_⟩
        cbv
        (iterate 2 apply Exists.intro); refine ⟨?_, ?_⟩; cbv
        subst hA
        refine ⟨k + 1, wsucc hw (by omega), by omega, ?_⟩
        simp only [std, newElt, putC, FV.cells, elt, mkE, mkL, mk1, fit, fitL, fit1, k1, u1, w1, k2, u2, w2]
        have := swap2_gs (i := (IntKind.i64.wrap (a + w)).toNat) (j := (IntKind.i64.wrap (b + w)).toNat) o1 (by rw [ta]; simp; omega) (by rw [tb]; simp; omega)
        refine this.trans ?_
        rw [take_s hU, drop_s hU, take_s hV', drop_s hV']
        simp
      · subst hA
        have hk2 : U.length ≤ k := by (try simp only [nc] at *); omega
        refine fin2 h rfl ?_
        rw [ho, List.take_of_length_le hk2, List.drop_of_length_le hk2, List.take_of_length_le (by omega), List.drop_of_length_le (by omega)]
        simp [std]
  · exact h.elim
end Go.Proofs.YtjipfimhmfhmhaaDoor.Z
