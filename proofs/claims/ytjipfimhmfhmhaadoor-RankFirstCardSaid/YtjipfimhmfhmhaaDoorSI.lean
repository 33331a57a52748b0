/- Rows of items over plain data. No condition but those that are written out. -/
import Derived.Test.YtjipfimhmfhmhaaDoorUC
import Derived.Test.YtjipfimhmfhmhaaDoorSA
import Derived.Test.YtjipfimhmfhmhaaDoorV0
namespace Go.Proofs.YtjipfimhmfhmhaaDoor.Z
open Go Go.RowKit Go.Proofs.YtjipfimhmfhmhaaDoor.E Go.Proofs.YtjipfimhmfhmhaaDoor.G
set_option linter.all false

def itF (x : It) : FV := .agg [.str x.key, .int .u64 x.u, .int .u64 x.w]
def its (L : List It) : List FV := L.map itF
def gi (L : List It) (n : Nat) : It := L.getD n ⟨ByteArray.empty, 0, 0⟩
theorem its_len (L : List It) : (its L).length = L.length := List.length_map _
theorem its_nth (L : List It) (n : Nat) : G.nth (its L) n = match L[n]? with | some x => itF x | none => .dead := by
  unfold G.nth its
  rw [List.getD_eq_getElem?_getD, List.getElem?_map]
  cases L[n]? <;> rfl
theorem its_key (L : List It) (n : Nat) : ((G.nth (its L) n).cell 0).toS = (gi L n).key := by
  rw [its_nth]; unfold gi; rw [List.getD_eq_getElem?_getD]
  cases L[n]? <;> rfl
theorem its_u (L : List It) (n : Nat) : ((G.nth (its L) n).cell 1).toI = (gi L n).u := by
  rw [its_nth]; unfold gi; rw [List.getD_eq_getElem?_getD]
  cases L[n]? <;> rfl
theorem its_w (L : List It) (n : Nat) : ((G.nth (its L) n).cell 2).toI = (gi L n).w := by
  rw [its_nth]; unfold gi; rw [List.getD_eq_getElem?_getD]
  cases L[n]? <;> rfl
theorem it_eta (x : It) : (⟨x.key, x.u, x.w⟩ : It) = x := rfl
theorem gi_mem {L : List It} {n : Nat} (h : n < L.length) : gi L n ∈ L := by
  unfold gi
  rw [List.getD_eq_getElem?_getD, List.getElem?_eq_getElem h]
  exact List.getElem_mem h
theorem gi_at {L : List It} {n : Nat} (h : n < L.length) : gi L n = L[n] := by
  unfold gi
  rw [List.getD_eq_getElem?_getD, List.getElem?_eq_getElem h]; rfl
theorem its_take (L : List It) (n : Nat) : (its L).take n = its (L.take n) := by simp [its, List.map_take]
theorem its_drop (L : List It) (n : Nat) : (its L).drop n = its (L.drop n) := by simp [its, List.map_drop]
theorem its_set (L : List It) (n : Nat) (x : It) : setN (its L) n (itF x) = its (L.set n x) := by simp [its, setN, List.map_set]
theorem all_gi {p : It → Bool} {L : List It} (h : ∀ i, i < L.length → p (gi L i) = true) : L.all p = true := by
  rw [List.all_eq_true]
  intro x hx
  obtain ⟨i, hi, e⟩ := List.mem_iff_getElem.1 hx
  have := h i hi
  rw [gi_at hi, e] at this
  exact this
theorem not_all {p : It → Bool} {L : List It} {i : Nat} (hi : i < L.length) (h : p (gi L i) = false) : L.all p = false := by
  rw [List.all_eq_false]
  exact ⟨_, gi_mem hi, by simp [h]⟩
theorem eqL_it (x y : It) : eqL [.str x.key, .int .u64 x.u, .int .u64 x.w] [.str y.key, .int .u64 y.u, .int .u64 y.w] = decide (x = y) := by
  cases x; cases y
  simp only [eqL, eqC, decide_true, Bool.true_and, Bool.and_true, It.mk.injEq, Bool.decide_and]
theorem gi_ext {L M : List It} (hl : L.length = M.length) (h : ∀ i, i < L.length → gi L i = gi M i) : L = M := by
  refine List.ext_getElem hl fun i h1 h2 => ?_
  have := h i h1
  rwa [gi_at h1, gi_at h2] at this
theorem wsucc {w : Int} {k : Nat} (h : w = k) (hk : k < 9223372036854775807) : IntKind.i64.wrap (w + 1) = ((k + 1 : Nat) : Int) := by rw [i64w, h]; unfold wrap64; omega
theorem wpred {w : Int} {k : Nat} (h : w = ((k + 1 : Nat) : Int)) (hk : k < 9223372036854775807) : IntKind.i64.wrap (w - 1) = (k : Int) := by rw [i64w, h]; unfold wrap64; omega
/-- Items that may be. -/
abbrev Gi := { x : It // x.ok ∧ 0 < x.w }
def cG (x y : Gi) : Int := cmpIt x.1 y.1
theorem cG_pre : Pre cG := ⟨fun x y => cmp_anti _ _, fun {x y z} h g => cmp_trans x.2.2 y.2.2 z.2.2 h g⟩
def gs (L : List Gi) : List It := L.map (·.1)
theorem gs_len (L : List Gi) : (gs L).length = L.length := List.length_map _
theorem gs_of : ∀ {L : List It}, (∀ x ∈ L, x.ok ∧ 0 < x.w) → ∃ M : List Gi, L = gs M
  | [], _ => ⟨[], rfl⟩
  | x :: L, h => by
    obtain ⟨M, e⟩ := gs_of fun y hy => h y (List.mem_cons_of_mem _ hy)
    exact ⟨⟨x, h x (List.mem_cons_self ..)⟩ :: M, congrArg (x :: ·) e⟩
theorem gi_gs {X Y : List Gi} {x : Gi} {n : Nat} (h : n = X.length) : gi (gs (X ++ x :: Y)) n = x.1 := by
  subst h
  unfold gi gs
  rw [List.getD_eq_getElem?_getD, List.getElem?_map, List.getElem?_append_right (Nat.le_refl _), Nat.sub_self]
  rfl
theorem set_gs {X Y : List Gi} {x y : Gi} {n : Nat} (h : n = X.length) : (gs (X ++ x :: Y)).set n y.1 = gs (X ++ y :: Y) := by
  subst h
  unfold gs
  rw [← List.map_set, List.set_append_right _ _ (Nat.le_refl _), Nat.sub_self]
  rfl
theorem swap_gs {Q R : List Gi} {z x : Gi} {i j : Nat} (hi : i = Q.length + 1) (hj : j = Q.length) : setN (setN (its (gs (Q ++ z :: x :: R))) i (itF z.1)) j (itF x.1) = its (gs (Q ++ x :: z :: R)) := by
  rw [its_set, its_set]
  have h1 : (gs (Q ++ z :: x :: R)).set i z.1 = gs (Q ++ z :: z :: R) := by
    have := set_gs (X := Q ++ [z]) (Y := R) (x := x) (y := z) (n := i) (by simp [hi])
    simpa using this
  rw [h1, set_gs hj]
theorem gs_key {X Y : List Gi} {x : Gi} {n : Nat} (h : n = X.length) : ((G.nth (its (gs (X ++ x :: Y))) n).cell 0).toS = x.1.key := by rw [its_key, gi_gs h]
theorem gs_u {X Y : List Gi} {x : Gi} {n : Nat} (h : n = X.length) : ((G.nth (its (gs (X ++ x :: Y))) n).cell 1).toI = x.1.u := by rw [its_u, gi_gs h]
theorem gs_w {X Y : List Gi} {x : Gi} {n : Nat} (h : n = X.length) : ((G.nth (its (gs (X ++ x :: Y))) n).cell 2).toI = x.1.w := by rw [its_w, gi_gs h]
theorem toN {w : Int} {n : Nat} (h : w = (n : Int)) : w.toNat = n := by rw [h]; rfl
theorem el3 {o : List FV} {X Y : List Gi} {x : Gi} {n : Nat} (ho : o = its (gs (X ++ x :: Y))) (h : n = X.length) : ((G.nth o n).cell 0).toS = x.1.key ∧ ((G.nth o n).cell 1).toI = x.1.u ∧ ((G.nth o n).cell 2).toI = x.1.w := by
  subst ho
  exact ⟨gs_key h, gs_u h, gs_w h⟩
theorem snoc {α : Type} {X : List α} (h : 0 < X.length) : ∃ X' z, X = X' ++ [z] := ⟨X.dropLast, X.getLast (List.ne_nil_of_length_pos h), (List.dropLast_concat_getLast _).symm⟩
theorem gs_ok {L : List Gi} : ∀ x ∈ gs L, x.ok := fun x hx => by
  obtain ⟨y, _, rfl⟩ := List.mem_map.1 hx
  exact y.2.1
end Go.Proofs.YtjipfimhmfhmhaaDoor.Z
