/- Sorting, plainly: a list that is in order, and that keeps who is alike in order, is one alone. No condition but those that are written out. -/
import Derived.Test.YtjipfimhmfhmhaaDoorNY
namespace Go.Proofs.YtjipfimhmfhmhaaDoor.Z
set_option linter.all false

section
variable {α : Type} {c : α → α → Int}
/-- An order of all, in which some may be alike. -/
structure Pre (c : α → α → Int) : Prop where
  anti : ∀ x y, c y x = - c x y
  trans : ∀ {x y z}, c x y ≤ 0 → c y z ≤ 0 → c x z ≤ 0
theorem Pre.refl (h : Pre c) (x : α) : c x x = 0 := by have := h.anti x x; omega
theorem Pre.eq (h : Pre c) {x y z : α} (h1 : c x y = 0) (h2 : c y z = 0) : c x z = 0 := by
  have a := h.trans (x := x) (y := y) (z := z) (by omega) (by omega)
  have b := h.trans (x := z) (y := y) (z := x) (by rw [h.anti]; omega) (by rw [h.anti]; omega)
  have := h.anti x z
  omega
theorem Pre.sym (h : Pre c) {x y : α} (h1 : c x y = 0) : c y x = 0 := by rw [h.anti, h1]; rfl
theorem Pre.lt_le (h : Pre c) {x y z : α} (h1 : c x y < 0) (h2 : c y z ≤ 0) : c x z < 0 := by
  have a := h.trans (x := x) (y := y) (z := z) (by omega) h2
  rcases Int.lt_or_eq_of_le a with h3 | h3
  · exact h3
  · have b := h.trans (x := y) (y := z) (z := x) h2 (by rw [h.anti]; omega)
    rw [h.anti] at b
    omega
theorem Pre.le_lt (h : Pre c) {x y z : α} (h1 : c x y ≤ 0) (h2 : c y z < 0) : c x z < 0 := by
  have a := h.trans (x := x) (y := y) (z := z) h1 (by omega)
  rcases Int.lt_or_eq_of_le a with h3 | h3
  · exact h3
  · have b := h.trans (x := z) (y := x) (z := y) (by rw [h.anti]; omega) h1
    rw [h.anti] at b
    omega
/-- In order. -/
def Srtd (c : α → α → Int) (L : List α) : Prop := L.Pairwise fun x y => c x y ≤ 0
def lk (c : α → α → Int) (x : α) (L : List α) : List α := L.filter fun y => decide (c x y = 0)
/-- Who is alike stands as before. -/
def Stab (c : α → α → Int) (L R : List α) : Prop := ∀ x, lk c x R = lk c x L
theorem Stab.rfl {L : List α} : Stab c L L := fun _ => Eq.refl _
theorem Stab.trans {L M R : List α} (h : Stab c L M) (g : Stab c M R) : Stab c L R := fun x => (g x).trans (h x)
theorem lk_append (x : α) (L M : List α) : lk c x (L ++ M) = lk c x L ++ lk c x M := List.filter_append ..
theorem Stab.append {L L' M M' : List α} (h : Stab c L L') (g : Stab c M M') : Stab c (L ++ M) (L' ++ M') := fun x => by rw [lk_append, lk_append, h x, g x]
theorem lk_mem {x y : α} {L : List α} : y ∈ lk c x L ↔ y ∈ L ∧ c x y = 0 := by simp [lk]
theorem Stab.mem (hp : Pre c) {L R : List α} (h : Stab c L R) {x : α} : x ∈ R ↔ x ∈ L := by
  have h1 : x ∈ lk c x R ↔ x ∈ lk c x L := by rw [h x]
  simpa [lk_mem, hp.refl] using h1
theorem uniq (hp : Pre c) : ∀ {L R : List α}, Srtd c L → Srtd c R → Stab c L R → L = R
  | [], [], _, _, _ => rfl
  | [], b :: R, _, _, h => by
    have := (h.mem hp (x := b)).1 (List.mem_cons_self ..)
    cases this
  | a :: L, [], _, _, h => by
    have := (h.mem hp (x := a)).2 (List.mem_cons_self ..)
    cases this
  | a :: L, b :: R, hL, hR, h => by
    have hL' := List.pairwise_cons.1 hL
    have hR' := List.pairwise_cons.1 hR
    have h1 : c a b ≤ 0 := by
      rcases List.mem_cons.1 ((h.mem hp (x := b)).1 (List.mem_cons_self ..)) with e | e
      · rw [e, hp.refl]; exact Int.le_refl _
      · exact hL'.1 b e
    have h2 : c b a ≤ 0 := by
      rcases List.mem_cons.1 ((h.mem hp (x := a)).2 (List.mem_cons_self ..)) with e | e
      · rw [e, hp.refl]; exact Int.le_refl _
      · exact hR'.1 a e
    have h3 : c a b = 0 := by have := hp.anti a b; omega
    have e : a = b := by
      have := h a
      simp only [lk, List.filter_cons, h3, hp.refl, decide_true, if_true, List.cons.injEq] at this
      exact this.1.symm
    subst e
    congr 1
    refine uniq hp hL'.2 hR'.2 fun x => ?_
    have := h x
    by_cases hx : c x a = 0
    · simpa only [lk, List.filter_cons, hx, decide_true, if_true, List.cons.injEq, true_and] using this
    · simpa only [lk, List.filter_cons, hx, decide_false, Bool.false_eq_true, if_false] using this
def insL (c : α → α → Int) (x : α) : List α → List α
  | [] => [x]
  | y :: ys => if c y x < 0 then y :: insL c x ys else x :: y :: ys
/-- In order, who is alike as before. -/
def srt (c : α → α → Int) : List α → List α
  | [] => []
  | x :: L => insL c x (srt c L)
theorem insL_mem {x y : α} : ∀ {L : List α}, y ∈ insL c x L ↔ y = x ∨ y ∈ L
  | [] => by simp [insL]
  | z :: L => by
    unfold insL
    split
    · simp only [List.mem_cons, insL_mem (L := L)]
      constructor
      · rintro (h | h | h) <;> simp [h]
      · rintro (h | h | h) <;> simp [h]
    · simp
theorem insL_srtd (hp : Pre c) {x : α} : ∀ {L : List α}, Srtd c L → Srtd c (insL c x L)
  | [], _ => List.pairwise_singleton ..
  | y :: L, h => by
    have h' := List.pairwise_cons.1 h
    unfold insL
    split
    · rename_i hl
      refine List.pairwise_cons.2 ⟨fun z hz => ?_, insL_srtd hp h'.2⟩
      rcases insL_mem.1 hz with rfl | hz
      · omega
      · exact h'.1 z hz
    · rename_i hl
      have hxy : c x y ≤ 0 := by rw [hp.anti]; omega
      refine List.pairwise_cons.2 ⟨fun z hz => ?_, h⟩
      rcases List.mem_cons.1 hz with rfl | hz
      · exact hxy
      · exact hp.trans hxy (h'.1 z hz)
theorem insL_stab (hp : Pre c) {x : α} : ∀ {L : List α}, Stab c (x :: L) (insL c x L)
  | [], _ => rfl
  | y :: L, z => by
    unfold insL
    split
    · rename_i hl
      have ih := insL_stab hp (x := x) (L := L) z
      simp only [lk] at *
      rw [List.filter_cons, ih]
      simp only [List.filter_cons]
      by_cases h1 : c z y = 0
      · by_cases h2 : c z x = 0
        · have := hp.eq (hp.sym h1) h2
          omega
        · simp [h1, h2]
      · simp [h1]
    · rfl
theorem srt_srtd (hp : Pre c) : ∀ (L : List α), Srtd c (srt c L)
  | [] => List.Pairwise.nil
  | _ :: L => insL_srtd hp (srt_srtd hp L)
theorem srt_stab (hp : Pre c) : ∀ (L : List α), Stab c L (srt c L)
  | [] => .rfl
  | x :: L => (Stab.append (L := [x]) .rfl (srt_stab hp L)).trans (insL_stab hp)
theorem srt_of (hp : Pre c) {L R : List α} (h : Srtd c R) (g : Stab c L R) : R = srt c L := uniq hp h (srt_srtd hp L) fun x => ((srt_stab hp L) x).trans (g x).symm
theorem insL_len {x : α} : ∀ {L : List α}, (insL c x L).length = L.length + 1
  | [] => rfl
  | y :: L => by
    unfold insL
    split
    · simp [insL_len (L := L)]
    · rfl
theorem srt_len : ∀ (L : List α), (srt c L).length = L.length
  | [] => rfl
  | x :: L => by rw [srt, insL_len, srt_len L]; rfl
/-- Two parts of which each in the second stands ahead of each in the first may change places. -/
theorem stab_swap (hp : Pre c) {X Y : List α} (h : ∀ x ∈ X, ∀ y ∈ Y, c y x < 0) : Stab c (X ++ Y) (Y ++ X) := fun z => by
  rw [lk_append, lk_append]
  rcases e : lk c z X with _ | ⟨x, X'⟩
  · simp
  · rcases e' : lk c z Y with _ | ⟨y, Y'⟩
    · simp
    · have hx := lk_mem.1 (e ▸ List.mem_cons_self .. : x ∈ lk c z X)
      have hy := lk_mem.1 (e' ▸ List.mem_cons_self .. : y ∈ lk c z Y)
      have := h x hx.1 y hy.1
      have := hp.eq (hp.sym hy.2) hx.2
      omega
theorem srtd_append {X Y : List α} : Srtd c (X ++ Y) ↔ Srtd c X ∧ Srtd c Y ∧ ∀ x ∈ X, ∀ y ∈ Y, c x y ≤ 0 := List.pairwise_append
/-- One more at its place. -/
theorem srt_ins (hp : Pre c) {M X Y : List α} {x : α} (hT : X ++ Y = srt c M) (hY : ∀ y ∈ Y, c x y < 0) (hX : ∀ y ∈ X, c y x ≤ 0) : X ++ x :: Y = srt c (M ++ [x]) := by
  have hs := srt_srtd hp M
  rw [← hT] at hs
  obtain ⟨s1, s2, s3⟩ := srtd_append.1 hs
  refine srt_of hp ?_ ?_
  · refine srtd_append.2 ⟨s1, List.pairwise_cons.2 ⟨fun y hy => by have := hY y hy; omega, s2⟩, fun y hy z hz => ?_⟩
    rcases List.mem_cons.1 hz with rfl | hz
    · exact hX y hy
    · exact s3 y hy z hz
  · have h1 : Stab c (M ++ [x]) ((X ++ Y) ++ [x]) := Stab.append (by rw [hT]; exact srt_stab hp M) .rfl
    refine h1.trans ?_
    rw [List.append_assoc]
    refine Stab.append .rfl ?_
    have := stab_swap hp (X := Y) (Y := [x]) (fun y hy z hz => by rw [List.mem_singleton.1 hz]; exact hY y hy)
    exact this
/-- What is in order is left. -/
theorem srt_id (hp : Pre c) {L : List α} (h : Srtd c L) : srt c L = L := (srt_of hp h .rfl).symm
theorem srt_srt (hp : Pre c) {L M : List α} : srt c (srt c L ++ srt c M) = srt c (L ++ M) :=
  srt_of hp (srt_srtd hp _) ((Stab.append (srt_stab hp L) (srt_stab hp M)).trans (srt_stab hp _))
end
end Go.Proofs.YtjipfimhmfhmhaaDoor.Z
