/- Rows of items: what stands where; numbers between two. No condition but those that are written out. -/
import Derived.Test.YtjipfimhmfhmhaaDoorSI
import Derived.Test.YtjipfimhmfhmhaaDoorSB
namespace Go.Proofs.YtjipfimhmfhmhaaDoor.Z
open Go Go.RowKit Go.Proofs.YtjipfimhmfhmhaaDoor.E Go.Proofs.YtjipfimhmfhmhaaDoor.G
set_option linter.all false

theorem elq {L : List Gi} {o : List FV} {n : Nat} {x : Gi} (ho : o = its (gs L)) (h : L[n]? = some x) : ((G.nth o n).cell 0).toS = x.1.key ∧ ((G.nth o n).cell 1).toI = x.1.u ∧ ((G.nth o n).cell 2).toI = x.1.w := by
  have e : gi (gs L) n = x.1 := by
    unfold gi gs
    rw [List.getD_eq_getElem?_getD, List.getElem?_map, h]; rfl
  subst ho
  exact ⟨by rw [its_key, e], by rw [its_u, e], by rw [its_w, e]⟩
theorem atX {α : Type} {P X R : List α} {t n : Nat} (ht : t < X.length) (hn : n = P.length + t) : (P ++ (X ++ R))[n]? = some X[t] := by
  subst hn
  rw [List.getElem?_append_right (by omega), Nat.add_sub_cancel_left, List.getElem?_append_left ht, List.getElem?_eq_getElem ht]
theorem atY {α : Type} {P X Y R : List α} {t n : Nat} (ht : t < Y.length) (hn : n = P.length + X.length + t) : (P ++ (X ++ (Y ++ R)))[n]? = some Y[t] := by
  subst hn
  rw [List.getElem?_append_right (by omega), List.getElem?_append_right (by omega), List.getElem?_append_left (by omega), List.getElem?_eq_getElem (by omega)]
  congr 1; congr 1; omega
theorem wmid {a b : Int} {p q : Nat} (h : a = p) (h' : b = q) (hk : p + q < 9223372036854775808) : IntKind.i64.wrap (IntKind.u64.wrap (IntKind.i64.wrap (a + b)) / 2) = (((p + q) / 2 : Nat) : Int) := by
  have e1 : IntKind.i64.wrap (a + b) = ((p + q : Nat) : Int) := by rw [i64w, h, h']; unfold wrap64; omega
  have e2 : IntKind.u64.wrap ((p + q : Nat) : Int) = ((p + q : Nat) : Int) := by
    have : IntKind.u64.wrap ((p + q : Nat) : Int) = ((p + q : Nat) : Int) % 18446744073709551616 := by simp [IntKind.wrap, IntKind.bits, IntKind.signed]
    rw [this]; omega
  rw [e1, e2, i64w]; unfold wrap64; omega
theorem p2 : (2 : Int) ^ min (Int.toNat 1) (IntKind.bits .u64) = 2 := by decide
section
variable {α : Type} {c : α → α → Int}
theorem sym1 (hp : Pre c) {x : α} {Y : List α} (hY : Srtd c Y) {s : Nat} (h1 : ∀ y, 0 < s → Y[s - 1]? = some y → c y x < 0) (h2 : ∀ y, Y[s]? = some y → ¬ c y x < 0) (hs : s ≤ Y.length) : Y.take s ++ x :: Y.drop s = srt c (x :: Y) := by
  have a := List.take_append_drop s Y
  have hd : ∀ y ∈ Y.take s, c y x < 0 := fun y hy => by
    obtain ⟨i, hi, ey⟩ := mem_take hy
    have h3 : s - 1 < Y.length := by omega
    exact hp.le_lt (srtd_get hp hY (by omega) ey (List.getElem?_eq_getElem h3)) (h1 _ (by omega) (List.getElem?_eq_getElem h3))
  have he : ∀ y ∈ Y.drop s, c x y ≤ 0 := fun y hy => by
    obtain ⟨i, hi, ey⟩ := mem_drop hy
    have h3 : s < Y.length := by have := (List.getElem?_eq_some_iff.1 ey).1; omega
    have g := h2 _ (List.getElem?_eq_getElem h3)
    have g2 : c x Y[s] ≤ 0 := by rw [hp.anti]; omega
    exact hp.trans g2 (srtd_get hp hY hi (List.getElem?_eq_getElem h3) ey)
  have hY' := hY
  rw [← a] at hY'
  obtain ⟨s1, s2, s3⟩ := srtd_append.1 hY'
  refine srt_of hp (srtd_append.2 ⟨s1, List.pairwise_cons.2 ⟨he, s2⟩, fun y hy z hz => ?_⟩) ?_
  · rcases List.mem_cons.1 hz with rfl | hz
    · have := hd y hy; omega
    · exact s3 y hy z hz
  · have e := Stab.append (stab_swap hp (X := [x]) (Y := Y.take s) (fun z hz y hy => by rw [List.mem_singleton.1 hz]; exact hd y hy)) (.rfl (L := Y.drop s))
    have b : ([x] ++ Y.take s) ++ Y.drop s = x :: Y := by rw [List.append_assoc, a]; rfl
    rw [b] at e
    simpa using e
theorem sym2 (hp : Pre c) {y : α} {X : List α} (hX : Srtd c X) {s : Nat} (h1 : ∀ x, 0 < s → X[s - 1]? = some x → ¬ c y x < 0) (h2 : ∀ x, X[s]? = some x → c y x < 0) (hs : s ≤ X.length) : X.take s ++ y :: X.drop s = srt c (X ++ [y]) := by
  refine srt_ins hp (by rw [List.take_append_drop, srt_id hp hX]) (fun x hx => ?_) (fun x hx => ?_)
  · obtain ⟨i, hi, ex⟩ := mem_drop hx
    have h3 : s < X.length := by have := (List.getElem?_eq_some_iff.1 ex).1; omega
    exact hp.lt_le (h2 _ (List.getElem?_eq_getElem h3)) (srtd_get hp hX hi (List.getElem?_eq_getElem h3) ex)
  · obtain ⟨i, hi, ex⟩ := mem_take hx
    have h3 : s - 1 < X.length := by omega
    have g := h1 _ (by omega) (List.getElem?_eq_getElem h3)
    have g2 : c X[s - 1] y ≤ 0 := by rw [hp.anti]; omega
    exact hp.trans (srtd_get hp hX (by omega) ex (List.getElem?_eq_getElem h3)) g2
end
end Go.Proofs.YtjipfimhmfhmhaaDoor.Z
