/- Merging, plainly: what is cut in two and merged by parts is in order. No condition but those that are written out. -/
import Derived.Test.YtjipfimhmfhmhaaDoorSA
namespace Go.Proofs.YtjipfimhmfhmhaaDoor.Z
set_option linter.all false

section
variable {α : Type} {c : α → α → Int}
theorem srtd_get (hp : Pre c) {L : List α} (h : Srtd c L) {i j : Nat} {x y : α} (hij : i ≤ j) (hx : L[i]? = some x) (hy : L[j]? = some y) : c x y ≤ 0 := by
  rcases Nat.lt_or_eq_of_le hij with h1 | h1
  · obtain ⟨hi, rfl⟩ := List.getElem?_eq_some_iff.1 hx
    obtain ⟨hj, rfl⟩ := List.getElem?_eq_some_iff.1 hy
    exact List.pairwise_iff_getElem.1 h i j hi hj h1
  · subst h1
    rw [hx] at hy; cases hy
    rw [hp.refl]; exact Int.le_refl _
theorem mem_take {L : List α} {n : Nat} {x : α} (h : x ∈ L.take n) : ∃ i, i < n ∧ L[i]? = some x := by
  obtain ⟨i, hi, rfl⟩ := List.mem_iff_getElem.1 h
  rw [List.length_take] at hi
  exact ⟨i, by omega, by rw [List.getElem_take, List.getElem?_eq_getElem]⟩
theorem mem_drop {L : List α} {n : Nat} {x : α} (h : x ∈ L.drop n) : ∃ i, n ≤ i ∧ L[i]? = some x := by
  obtain ⟨i, hi, rfl⟩ := List.mem_iff_getElem.1 h
  rw [List.length_drop] at hi
  exact ⟨n + i, by omega, by rw [List.getElem_drop, List.getElem?_eq_getElem]⟩
theorem srt_mem (hp : Pre c) {L : List α} {x : α} : x ∈ srt c L ↔ x ∈ L := (srt_stab hp L).mem hp
/-- Both parts, each in order, are all in order. -/
theorem merge_fin (hp : Pre c) {X1 X2 Y1 Y2 : List α} (hX : Srtd c (X1 ++ X2)) (hY : Srtd c (Y1 ++ Y2)) (h1 : ∀ x ∈ X1, ∀ y ∈ Y2, c x y ≤ 0) (h2 : ∀ x ∈ X2, ∀ y ∈ Y1, c y x < 0) :
    srt c (X1 ++ Y1) ++ srt c (X2 ++ Y2) = srt c ((X1 ++ X2) ++ (Y1 ++ Y2)) := by
  obtain ⟨_, _, hx⟩ := srtd_append.1 hX
  obtain ⟨_, _, hy⟩ := srtd_append.1 hY
  refine srt_of hp (srtd_append.2 ⟨srt_srtd hp _, srt_srtd hp _, fun x h y g => ?_⟩) ?_
  · rw [srt_mem hp, List.mem_append] at h g
    rcases h with h | h <;> rcases g with g | g
    · exact hx x h y g
    · exact h1 x h y g
    · have := h2 y g x h; omega
    · exact hy x h y g
  · have e : Stab c (X1 ++ (X2 ++ Y1) ++ Y2) (X1 ++ (Y1 ++ X2) ++ Y2) := Stab.append (Stab.append .rfl (stab_swap hp h2)) .rfl
    have e2 : Stab c ((X1 ++ Y1) ++ (X2 ++ Y2)) (srt c (X1 ++ Y1) ++ srt c (X2 ++ Y2)) := Stab.append (srt_stab hp _) (srt_stab hp _)
    have a1 : X1 ++ (X2 ++ Y1) ++ Y2 = (X1 ++ X2) ++ (Y1 ++ Y2) := by simp
    have a2 : X1 ++ (Y1 ++ X2) ++ Y2 = (X1 ++ Y1) ++ (X2 ++ Y2) := by simp
    rw [a1, a2] at e
    exact e.trans e2
/-- The same, by who stands at the cuts. -/
theorem sym_fin (hp : Pre c) {X Y : List α} (hX : Srtd c X) (hY : Srtd c Y) {s e : Nat} (h1 : ∀ x y, 0 < s → X[s - 1]? = some x → Y[e]? = some y → ¬ c y x < 0) (h2 : ∀ x y, 0 < e → X[s]? = some x → Y[e - 1]? = some y → c y x < 0) (hs : s ≤ X.length) (he : e ≤ Y.length) :
    srt c (X.take s ++ Y.take e) ++ srt c (X.drop s ++ Y.drop e) = srt c (X ++ Y) := by
  have aX := List.take_append_drop s X
  have aY := List.take_append_drop e Y
  have := merge_fin hp (X1 := X.take s) (X2 := X.drop s) (Y1 := Y.take e) (Y2 := Y.drop e) (by rw [aX]; exact hX) (by rw [aY]; exact hY) (fun x hx y hy => ?_) (fun x hx y hy => ?_)
  · rwa [aX, aY] at this
  · obtain ⟨i, hi, ex⟩ := mem_take hx
    obtain ⟨j, hj, ey⟩ := mem_drop hy
    have h3 : s - 1 < X.length := by omega
    have h4 : e < Y.length := by have := (List.getElem?_eq_some_iff.1 ey).1; omega
    have g1 := srtd_get hp hX (by omega) ex (List.getElem?_eq_getElem h3)
    have g2 := srtd_get hp hY hj (List.getElem?_eq_getElem h4) ey
    have g3 := h1 _ _ (by omega) (List.getElem?_eq_getElem h3) (List.getElem?_eq_getElem h4)
    have g4 : c X[s - 1] Y[e] ≤ 0 := by rw [hp.anti]; omega
    exact hp.trans g1 (hp.trans g4 g2)
  · obtain ⟨i, hi, ex⟩ := mem_drop hx
    obtain ⟨j, hj, ey⟩ := mem_take hy
    have h3 : s < X.length := by have := (List.getElem?_eq_some_iff.1 ex).1; omega
    have h4 : e - 1 < Y.length := by omega
    have g1 := srtd_get hp hX hi (List.getElem?_eq_getElem h3) ex
    have g2 := srtd_get hp hY (by omega : j ≤ e - 1) ey (List.getElem?_eq_getElem h4)
    have g3 := h2 _ _ (by omega) (List.getElem?_eq_getElem h3) (List.getElem?_eq_getElem h4)
    exact hp.le_lt g2 (hp.lt_le g3 g1)
/-- A list that is cut into blocks, of which each is put in order. -/
def cutA (c : α → α → Int) : List Nat → List α → List α
  | [], _ => []
  | n :: ns, M => srt c (M.take n) ++ cutA c ns (M.drop n)
def cut (c : α → α → Int) (ns : List Nat) (M : List α) : List α := cutA c ns M ++ M.drop ns.sum
theorem cutA_len : ∀ (ns : List Nat) {M : List α}, ns.sum ≤ M.length → (cutA c ns M).length = ns.sum
  | [], _, _ => rfl
  | n :: ns, M, h => by
    rw [List.sum_cons] at h
    rw [cutA, List.length_append, srt_len, List.length_take, cutA_len ns (by rw [List.length_drop]; omega), List.sum_cons]
    omega
theorem cutA_app : ∀ (p q : List Nat) (M : List α), cutA c (p ++ q) M = cutA c p M ++ cutA c q (M.drop p.sum)
  | [], q, M => by simp [cutA]
  | n :: p, q, M => by
    rw [List.cons_append, cutA, cutA, cutA_app p q, List.append_assoc, List.drop_drop, List.sum_cons]
theorem cut_one (p : List Nat) (n : Nat) (M : List α) : cut c (p ++ [n]) M = cutA c p M ++ srt c ((M.drop p.sum).take n) ++ (M.drop p.sum).drop n := by
  unfold cut
  rw [cutA_app, List.sum_append, List.drop_drop]
  simp [cutA]
theorem cut_pre (p : List Nat) (M : List α) (n : Nat) : cut c p M = cutA c p M ++ (M.drop p.sum).take n ++ (M.drop p.sum).drop n := by
  unfold cut
  rw [List.append_assoc, List.take_append_drop]
/-- Two blocks are one. -/
theorem cut_two (hp : Pre c) (p q : List Nat) (x y : Nat) (M : List α) : ∃ X Y S, cut c (p ++ x :: y :: q) M = cutA c p M ++ X ++ Y ++ S ∧ cut c (p ++ (x + y) :: q) M = cutA c p M ++ srt c (X ++ Y) ++ S ∧ Srtd c X ∧ Srtd c Y ∧
    (p.sum + x + y ≤ M.length → X.length = x ∧ Y.length = y) := by
  refine ⟨srt c ((M.drop p.sum).take x), srt c (((M.drop p.sum).drop x).take y), cutA c q (((M.drop p.sum).drop x).drop y) ++ M.drop (p.sum + (x + (y + q.sum))), ?_, ?_, srt_srtd hp _, srt_srtd hp _, fun h => ?_⟩
  · unfold cut
    rw [cutA_app, List.sum_append]
    simp [cutA]
  · unfold cut
    rw [cutA_app, List.sum_append, srt_srt hp]
    have e : (M.drop p.sum).take (x + y) = (M.drop p.sum).take x ++ ((M.drop p.sum).drop x).take y := List.take_add
    simp [cutA, e, List.drop_drop, Nat.add_assoc]
  · rw [srt_len, srt_len, List.length_take, List.length_take, List.length_drop, List.length_drop, List.length_drop]
    omega
theorem cut_all (M : List α) {n : Nat} (h : M.length ≤ n) : cut c [n] M = srt c M := by
  unfold cut
  simp [cutA, List.take_of_length_le h, List.drop_of_length_le h]
theorem cut_zero (p : List Nat) (M : List α) (h : M.length = p.sum) : cut c (p ++ [0]) M = cut c p M := by
  unfold cut
  rw [cutA_app]
  simp [cutA, srt]
theorem sum_repl (k n : Nat) : (List.replicate k n).sum = k * n := by simp
end
end Go.Proofs.YtjipfimhmfhmhaaDoor.Z
