/- The first ones of each key, plainly: one more comes, two are merged. No condition but those that are written out. -/
import Derived.Test.YtmndbhgbngkakaaDoorKX
namespace Go.Proofs.YtmndbhgbngkakaaDoor.Z
set_option linter.all false

section
variable {α κ : Type} {c : α → α → Int} {key : α → κ}
/-- No key is there twice. -/
def Uq (key : α → κ) (S : List α) : Prop := S.Pairwise fun x y => key x ≠ key y
/-- Who is alike has one key. -/
def Kc (c : α → α → Int) (key : α → κ) : Prop := ∀ x y, c x y = 0 → key x = key y
/-- One more comes. -/
def Upd (c : α → α → Int) (key : α → κ) (S : List α) (x : α) (T : List α) : Prop :=
  ((∀ y ∈ S, key y ≠ key x) ∧ T = insL c x S) ∨ ∃ A y B, S = A ++ y :: B ∧ key y = key x ∧ ((0 ≤ c x y ∧ T = S) ∨ (c x y < 0 ∧ T = insL c x (A ++ B)))
theorem Uq.mid {A B : List α} {y : α} (h : Uq key (A ++ y :: B)) : (∀ z ∈ A, key z ≠ key y) ∧ (∀ z ∈ B, key z ≠ key y) ∧ Uq key (A ++ B) := by
  unfold Uq at *
  rw [List.pairwise_append] at h ⊢
  obtain ⟨h1, h2, h3⟩ := h
  rw [List.pairwise_cons] at h2
  exact ⟨fun z hz => h3 z hz y (List.mem_cons_self ..), fun z hz => (h2.1 z hz).symm, h1, h2.2, fun z hz w hw => h3 z hz w (List.mem_cons_of_mem _ hw)⟩
theorem Uq.eq {S : List α} (h : Uq key S) {x y : α} (hx : x ∈ S) (hy : y ∈ S) (e : key x = key y) : x = y := by
  obtain ⟨A, B, rfl⟩ := List.append_of_mem hx
  obtain ⟨h1, h2, _⟩ := h.mid
  rcases List.mem_append.1 hy with g | g
  · exact absurd e.symm (h1 y g)
  · rcases List.mem_cons.1 g with g | g
    · exact g.symm
    · exact absurd e.symm (h2 y g)
theorem Uq.take {S : List α} (h : Uq key S) (n : Nat) : Uq key (S.take n) := List.Pairwise.sublist (List.take_sublist n S) h
theorem Srtd.take {S : List α} (h : Srtd c S) (n : Nat) : Srtd c (S.take n) := List.Pairwise.sublist (List.take_sublist n S) h
theorem Srtd.mid {A B : List α} {y : α} (h : Srtd c (A ++ y :: B)) : (∀ z ∈ A, c z y ≤ 0) ∧ (∀ z ∈ B, c y z ≤ 0) ∧ Srtd c (A ++ B) := by
  obtain ⟨h1, h2, h3⟩ := srtd_append.1 h
  have h2 := List.pairwise_cons.1 h2
  exact ⟨fun z hz => h3 z hz y (List.mem_cons_self ..), h2.1, srtd_append.2 ⟨h1, h2.2, fun z hz w hw => h3 z hz w (List.mem_cons_of_mem _ hw)⟩⟩
theorem insL_uq {x : α} : ∀ {S : List α}, Uq key S → (∀ y ∈ S, key y ≠ key x) → Uq key (insL c x S)
  | [], _, _ => List.pairwise_singleton ..
  | y :: S, h, g => by
    have h' := List.pairwise_cons.1 h
    unfold insL
    split
    · refine List.pairwise_cons.2 ⟨fun z hz => ?_, insL_uq h'.2 fun z hz => g z (List.mem_cons_of_mem _ hz)⟩
      rcases insL_mem.1 hz with rfl | hz
      · exact g y (List.mem_cons_self ..)
      · exact h'.1 z hz
    · exact List.pairwise_cons.2 ⟨fun z hz => (g z hz).symm, h⟩
theorem insL_take {x : α} : ∀ {S : List α} {n : Nat}, (insL c x (S.take n)).take n = (insL c x S).take n
  | [], n => by rw [List.take_nil]
  | y :: S, 0 => rfl
  | y :: S, n + 1 => by
    rw [List.take_succ_cons]
    unfold insL
    split
    · rw [List.take_succ_cons, List.take_succ_cons, insL_take]
    · rw [List.take_succ_cons, List.take_succ_cons]
      cases n with
      | zero => rfl
      | succ n => rw [List.take_succ_cons, List.take_succ_cons, List.take_take]; congr 3; omega
theorem insL_take1 {x : α} : ∀ {S : List α} {n : Nat}, (∀ z, S[n]? = some z → ¬ c z x < 0) → insL c x (S.take n) = (insL c x S).take (n + 1)
  | [], n, _ => by simp [insL]
  | y :: S, 0, h => by
    have := h y rfl
    show [x] = _
    unfold insL
    rw [if_neg this]; rfl
  | y :: S, n + 1, h => by
    rw [List.take_succ_cons]
    unfold insL
    split
    · rw [List.take_succ_cons, insL_take1 fun z hz => h z (by simpa using hz)]
    · rfl
theorem insL_before {x : α} : ∀ {A B : List α}, (∀ z ∈ A, c z x < 0) → insL c x (A ++ B) = A ++ insL c x B
  | [], _, _ => rfl
  | y :: A, B, h => by
    rw [List.cons_append, insL, if_pos (h y (List.mem_cons_self ..)), insL_before fun z hz => h z (List.mem_cons_of_mem _ hz)]; rfl
theorem insL_end {x : α} {A : List α} (h : ∀ z ∈ A, c z x < 0) : insL c x A = A ++ [x] := by
  have := insL_before (B := []) h
  rwa [List.append_nil] at this
theorem lt_of (hp : Pre c) (hk : Kc c key) {x y : α} (h : c x y ≤ 0) (g : key x ≠ key y) : c x y < 0 := by
  rcases Int.lt_or_eq_of_le h with h | h
  · exact h
  · exact absurd (hk _ _ h) g
theorem take_pre {A B : List α} {n : Nat} (h : n ≤ A.length) : (A ++ B).take n = A.take n := by rw [List.take_append, Nat.sub_eq_zero_of_le h, List.take_zero, List.append_nil]
/-- What is cut off makes no difference. -/
theorem take_step (hp : Pre c) (hk : Kc c key) {S M N : List α} {x : α} {n : Nat} (hS : Srtd c S) (hU : Uq key S) (hn : 0 < n) (hM : M = S.take n)
    (h : ((∀ y ∈ M, key y ≠ key x) ∧ N = (insL c x M).take n) ∨ ∃ A y B, M = A ++ y :: B ∧ key y = key x ∧ ((0 ≤ c x y ∧ N = M) ∨ (c x y < 0 ∧ N = (insL c x (A ++ B)).take n))) :
    ∃ T, Upd c key S x T ∧ N = T.take n := by
  rcases h with ⟨h1, h2⟩ | ⟨A, y, B, h1, h2, h3⟩
  · by_cases hx : ∀ y ∈ S, key y ≠ key x
    · exact ⟨_, .inl ⟨hx, rfl⟩, by rw [h2, hM, insL_take]⟩
    · replace hx := Classical.not_forall.1 hx
      obtain ⟨y, hy⟩ := hx
      have ⟨hy, e⟩ : y ∈ S ∧ key y = key x := ⟨Classical.byContradiction fun g => hy fun h => absurd h g, Classical.byContradiction fun g => hy fun _ => g⟩
      obtain ⟨A, B, rfl⟩ := List.append_of_mem hy
      obtain ⟨u1, u2, u3⟩ := hU.mid
      obtain ⟨s1, s2, s3⟩ := hS.mid
      have hl : n ≤ A.length := Classical.byContradiction fun g => by
        refine h1 y ?_ e
        rw [hM, List.take_append]
        refine List.mem_append.2 (.inr ?_)
        obtain ⟨m, hm⟩ : ∃ m, n - A.length = m + 1 := ⟨n - A.length - 1, by omega⟩
        rw [hm]; exact List.mem_cons_self ..
      have e1 : M = A.take n := by rw [hM, take_pre hl]
      by_cases hc : 0 ≤ c x y
      · refine ⟨_, .inr ⟨A, y, B, rfl, e, .inl ⟨hc, rfl⟩⟩, ?_⟩
        rw [h2, ← hM]
        have : ∀ z ∈ M, c z x < 0 := fun z hz => by
          have hzA : z ∈ A := by rw [e1] at hz; exact List.mem_of_mem_take hz
          have g : c y x ≤ 0 := by rw [hp.anti]; omega
          exact lt_of hp hk (hp.trans (s1 z hzA) g) (by rw [← e]; exact u1 z hzA)
        rw [insL_end this, take_pre (by rw [e1, List.length_take]; omega), List.take_of_length_le (by rw [e1, List.length_take]; omega)]
      · refine ⟨_, .inr ⟨A, y, B, rfl, e, .inr ⟨by omega, rfl⟩⟩, ?_⟩
        rw [h2, e1, ← insL_take (S := A ++ B), take_pre hl]
  · have hD : S = A ++ y :: (B ++ S.drop n) := by
      have := List.take_append_drop n S
      rw [← hM, h1] at this
      rw [List.append_assoc] at this
      exact this.symm
    rcases h3 with ⟨h3, h4⟩ | ⟨h3, h4⟩
    · exact ⟨S, .inr ⟨A, y, _, hD, h2, .inl ⟨h3, rfl⟩⟩, by rw [h4, hM]⟩
    · refine ⟨_, .inr ⟨A, y, _, hD, h2, .inr ⟨h3, rfl⟩⟩, ?_⟩
      rw [h4]
      have hlen : (A ++ B).length + 1 = M.length := by rw [h1]; simp; omega
      rcases Nat.lt_or_ge S.length n with g | g
      · rw [List.drop_of_length_le (by omega), List.append_nil]
      · have hl : (A ++ B).length + 1 = n := by rw [hlen, hM, List.length_take]; omega
        have e2 : (A ++ (B ++ S.drop n)).take (A ++ B).length = A ++ B := by rw [← List.append_assoc, List.take_left']; rfl
        have := insL_take1 (c := c) (x := x) (S := A ++ (B ++ S.drop n)) (n := (A ++ B).length) fun z hz => by
          have hzD : z ∈ S.drop n := by
            rw [← List.append_assoc, List.getElem?_append_right (Nat.le_refl _)] at hz
            exact List.mem_of_getElem? hz
          have := (hD ▸ hS : Srtd c (A ++ y :: (B ++ S.drop n))).mid.2.1 z (List.mem_append.2 (.inr hzD))
          have g2 := hp.lt_le h3 this
          have := hp.anti z x
          omega
        rw [e2] at this
        rw [this, hl, List.take_take, Nat.min_self]
theorem Upd.keeps (hp : Pre c) {S T : List α} {x : α} (h : Upd c key S x T) (hS : Srtd c S) (hU : Uq key S) : Srtd c T ∧ Uq key T := by
  rcases h with ⟨h1, rfl⟩ | ⟨A, y, B, rfl, h2, ⟨h3, rfl⟩ | ⟨h3, rfl⟩⟩
  · exact ⟨insL_srtd hp hS, insL_uq hU h1⟩
  · exact ⟨hS, hU⟩
  · obtain ⟨u1, u2, u3⟩ := hU.mid
    refine ⟨insL_srtd hp hS.mid.2.2, insL_uq u3 fun z hz => ?_⟩
    rw [← h2]
    rcases List.mem_append.1 hz with hz | hz
    · exact u1 z hz
    · exact u2 z hz
theorem Upd.ex (S : List α) (x : α) : ∃ T, Upd c key S x T := by
  by_cases hx : ∀ y ∈ S, key y ≠ key x
  · exact ⟨_, .inl ⟨hx, rfl⟩⟩
  · replace hx := Classical.not_forall.1 hx
    obtain ⟨y, hy⟩ := hx
    have ⟨hy, e⟩ : y ∈ S ∧ key y = key x := ⟨Classical.byContradiction fun g => hy fun h => absurd h g, Classical.byContradiction fun g => hy fun _ => g⟩
    obtain ⟨A, B, hS⟩ := List.append_of_mem hy
    by_cases hc : 0 ≤ c x y
    · exact ⟨_, .inr ⟨A, y, B, hS, e, .inl ⟨hc, rfl⟩⟩⟩
    · exact ⟨_, .inr ⟨A, y, B, hS, e, .inr ⟨by omega, rfl⟩⟩⟩
/-- The first of the least ones of its key. -/
def FstIn (c : α → α → Int) (key : α → κ) (L : List α) (x : α) : Prop := ∃ P Q, L = P ++ x :: Q ∧ (∀ y ∈ P, key y = key x → c x y < 0) ∧ ∀ y ∈ Q, key y = key x → c x y ≤ 0
structure FS (c : α → α → Int) (key : α → κ) (L S : List α) : Prop where
  srt : Srtd c S
  uq : Uq key S
  fst : ∀ x ∈ S, FstIn c key L x
  cov : ∀ y ∈ L, ∃ x ∈ S, key x = key y
/-- The least ones of each key, in order. -/
structure BS (c : α → α → Int) (key : α → κ) (L S : List α) : Prop where
  srt : Srtd c S
  uq : Uq key S
  mem : ∀ x ∈ S, x ∈ L
  least : ∀ x ∈ S, ∀ y ∈ L, key y = key x → c x y ≤ 0
  cov : ∀ y ∈ L, ∃ x ∈ S, key x = key y
theorem FstIn.le (hp : Pre c) {L : List α} {x : α} (h : FstIn c key L x) : x ∈ L ∧ ∀ y ∈ L, key y = key x → c x y ≤ 0 := by
  obtain ⟨P, Q, rfl, h1, h2⟩ := h
  refine ⟨by simp, fun y hy e => ?_⟩
  rcases List.mem_append.1 hy with g | g
  · exact Int.le_of_lt (h1 y g e)
  · rcases List.mem_cons.1 g with rfl | g
    · rw [hp.refl]; exact Int.le_refl _
    · exact h2 y g e
theorem FstIn.app {L : List α} {x z : α} (h : FstIn c key L z) (g : key x = key z → c z x ≤ 0) : FstIn c key (L ++ [x]) z := by
  obtain ⟨P, Q, rfl, h1, h2⟩ := h
  refine ⟨P, Q ++ [x], by simp, h1, fun y hy e => ?_⟩
  rcases List.mem_append.1 hy with hy | hy
  · exact h2 y hy e
  · rw [List.mem_singleton.1 hy] at e ⊢; exact g e
theorem FS.bs (hp : Pre c) {L S : List α} (h : FS c key L S) : BS c key L S := ⟨h.srt, h.uq, fun x hx => ((h.fst x hx).le hp).1, fun x hx => ((h.fst x hx).le hp).2, h.cov⟩
theorem FS.nil : FS c key [] [] := ⟨List.Pairwise.nil, List.Pairwise.nil, (fun x h => nomatch h), (fun y h => nomatch h)⟩
theorem BS.nil : BS c key [] [] := ⟨List.Pairwise.nil, List.Pairwise.nil, (fun x h => nomatch h), (fun x h => nomatch h), (fun y h => nomatch h)⟩
theorem cov_step {L S T : List α} {x : α} (h : Upd c key S x T) (g : ∀ y ∈ L, ∃ x ∈ S, key x = key y) : ∀ y ∈ L ++ [x], ∃ x ∈ T, key x = key y := by
  rcases h with ⟨h1, rfl⟩ | ⟨A, w, B, rfl, h2, ⟨h3, rfl⟩ | ⟨h3, rfl⟩⟩
  · intro y hy
    rcases List.mem_append.1 hy with hy | hy
    · obtain ⟨z, hz, e⟩ := g y hy
      exact ⟨z, insL_mem.2 (.inr hz), e⟩
    · exact ⟨x, insL_mem.2 (.inl rfl), by rw [List.mem_singleton.1 hy]⟩
  · intro y hy
    rcases List.mem_append.1 hy with hy | hy
    · exact g y hy
    · exact ⟨w, by simp, by rw [List.mem_singleton.1 hy, h2]⟩
  · intro y hy
    rcases List.mem_append.1 hy with hy | hy
    · obtain ⟨z, hz, e⟩ := g y hy
      by_cases ew : z = w
      · subst ew; exact ⟨x, insL_mem.2 (.inl rfl), by rw [← h2]; exact e⟩
      · refine ⟨z, insL_mem.2 (.inr ?_), e⟩
        simp only [List.mem_append, List.mem_cons] at hz ⊢
        rcases hz with hz | hz | hz
        · exact .inl hz
        · exact absurd hz ew
        · exact .inr hz
    · exact ⟨x, insL_mem.2 (.inl rfl), by rw [List.mem_singleton.1 hy]⟩
theorem FS.step (hp : Pre c) {L S T : List α} {x : α} (hF : FS c key L S) (h : Upd c key S x T) : FS c key (L ++ [x]) T := by
  obtain ⟨k1, k2⟩ := h.keeps hp hF.srt hF.uq
  refine ⟨k1, k2, ?_, cov_step h hF.cov⟩
  rcases h with ⟨h1, rfl⟩ | ⟨A, w, B, rfl, h2, ⟨h3, rfl⟩ | ⟨h3, rfl⟩⟩
  · intro z hz
    rcases insL_mem.1 hz with rfl | hz
    · refine ⟨L, [], rfl, fun y hy e => ?_, fun y hy => nomatch hy⟩
      obtain ⟨s, hs, e2⟩ := hF.cov y hy
      exact absurd (e2.trans e) (h1 s hs)
    · exact (hF.fst z hz).app fun e => absurd e.symm (h1 z hz)
  · intro z hz
    refine (hF.fst z hz).app fun e => ?_
    have : z = w := hF.uq.eq hz (by simp) (by rw [h2, e])
    rw [this, hp.anti]; omega
  · obtain ⟨u1, u2, u3⟩ := hF.uq.mid
    intro z hz
    rcases insL_mem.1 hz with rfl | hz
    · refine ⟨L, [], rfl, fun y hy e => ?_, fun y hy => nomatch hy⟩
      have := ((hF.fst w (by simp)).le hp).2 y hy (e.trans h2.symm)
      exact hp.lt_le h3 this
    · rcases List.mem_append.1 hz with hz | hz
      · exact (hF.fst z (by simp [hz])).app fun e => absurd (e.symm.trans h2.symm) (u1 z hz)
      · exact (hF.fst z (by simp [hz])).app fun e => absurd (e.symm.trans h2.symm) (u2 z hz)
theorem BS.step (hp : Pre c) {L S T : List α} {x : α} (hF : BS c key L S) (h : Upd c key S x T) : BS c key (L ++ [x]) T := by
  obtain ⟨k1, k2⟩ := h.keeps hp hF.srt hF.uq
  have hm : ∀ z ∈ T, z ∈ L ++ [x] := by
    rcases h with ⟨h1, rfl⟩ | ⟨A, w, B, rfl, h2, ⟨h3, rfl⟩ | ⟨h3, rfl⟩⟩
    · intro z hz
      rcases insL_mem.1 hz with rfl | hz
      · simp
      · exact List.mem_append.2 (.inl (hF.mem z hz))
    · intro z hz; exact List.mem_append.2 (.inl (hF.mem z hz))
    · intro z hz
      rcases insL_mem.1 hz with rfl | hz
      · simp
      · refine List.mem_append.2 (.inl (hF.mem z ?_))
        simp only [List.mem_append, List.mem_cons] at hz ⊢
        rcases hz with hz | hz
        · exact .inl hz
        · exact .inr (.inr hz)
  refine ⟨k1, k2, hm, ?_, cov_step h hF.cov⟩
  have spl : ∀ z : α, (∀ y ∈ L, key y = key z → c z y ≤ 0) → (key x = key z → c z x ≤ 0) → ∀ y ∈ L ++ [x], key y = key z → c z y ≤ 0 := fun z h1 h2 y hy e => by
    rcases List.mem_append.1 hy with hy | hy
    · exact h1 y hy e
    · rw [List.mem_singleton.1 hy] at e ⊢; exact h2 e
  have self : key x = key x → c x x ≤ 0 := fun _ => by rw [hp.refl]; exact Int.le_refl _
  rcases h with ⟨h1, rfl⟩ | ⟨A, w, B, rfl, h2, ⟨h3, rfl⟩ | ⟨h3, rfl⟩⟩
  · intro z hz
    rcases insL_mem.1 hz with rfl | hz
    · refine spl _ (fun y hy e => ?_) self
      obtain ⟨s, hs, e2⟩ := hF.cov y hy
      exact absurd (e2.trans e) (h1 s hs)
    · exact spl _ (hF.least z hz) fun e => absurd e.symm (h1 z hz)
  · intro z hz
    refine spl _ (hF.least z hz) fun e => ?_
    have : z = w := hF.uq.eq hz (by simp) (by rw [h2, e])
    rw [this, hp.anti]; omega
  · obtain ⟨u1, u2, u3⟩ := hF.uq.mid
    intro z hz
    rcases insL_mem.1 hz with rfl | hz
    · refine spl _ (fun y hy e => ?_) self
      exact Int.le_of_lt (hp.lt_le h3 (hF.least w (by simp) y hy (e.trans h2.symm)))
    · rcases List.mem_append.1 hz with hz | hz
      · exact spl _ (hF.least z (by simp [hz])) fun e => absurd (e.symm.trans h2.symm) (u1 z hz)
      · exact spl _ (hF.least z (by simp [hz])) fun e => absurd (e.symm.trans h2.symm) (u2 z hz)
theorem srt_ext (hp : Pre c) (hk : Kc c key) : ∀ {S T : List α}, Srtd c S → Uq key S → Srtd c T → Uq key T → (∀ x, x ∈ S ↔ x ∈ T) → S = T
  | [], [], _, _, _, _, _ => rfl
  | [], b :: T, _, _, _, _, h => by have := (h b).2 (List.mem_cons_self ..); cases this
  | a :: S, [], _, _, _, _, h => by have := (h a).1 (List.mem_cons_self ..); cases this
  | a :: S, b :: T, h1, h2, h3, h4, h => by
    have h1' := List.pairwise_cons.1 h1
    have h2' := List.pairwise_cons.1 h2
    have h3' := List.pairwise_cons.1 h3
    have h4' := List.pairwise_cons.1 h4
    have e : a = b := by
      rcases List.mem_cons.1 ((h a).1 (List.mem_cons_self ..)) with e | e
      · exact e
      · have g1 := h3'.1 a e
        rcases List.mem_cons.1 ((h b).2 (List.mem_cons_self ..)) with e2 | e2
        · exact e2.symm
        · have g2 := h1'.1 b e2
          have g3 : c b a = 0 := by have := hp.anti a b; omega
          exact absurd (hk _ _ g3) (h4'.1 a e)
    subst e
    congr 1
    refine srt_ext hp hk h1'.2 h2'.2 h3'.2 h4'.2 fun x => ⟨fun hx => ?_, fun hx => ?_⟩
    · rcases List.mem_cons.1 ((h x).1 (List.mem_cons_of_mem _ hx)) with e | e
      · subst e; exact absurd rfl (h2'.1 x hx)
      · exact e
    · rcases List.mem_cons.1 ((h x).2 (List.mem_cons_of_mem _ hx)) with e | e
      · subst e; exact absurd rfl (h4'.1 x hx)
      · exact e
theorem fst_uniq (hp : Pre c) {L : List α} {x y : α} (h : FstIn c key L x) (g : FstIn c key L y) (e : key x = key y) : x = y := by
  obtain ⟨P, Q, rfl, h1, h2⟩ := h
  obtain ⟨R, U, hL, g1, g2⟩ := g
  rcases List.append_eq_append_iff.1 hL with ⟨a, e1, e2⟩ | ⟨a, e1, e2⟩
  · rcases a with _ | ⟨b, a⟩
    · simp at e2; exact e2.1
    · simp only [List.cons_append, List.cons.injEq] at e2
      obtain ⟨rfl, e2⟩ := e2
      have k1 := g1 x (by rw [e1]; simp) e
      have k2 := h2 y (by rw [e2]; simp) e.symm
      have := hp.anti x y
      omega
  · rcases a with _ | ⟨b, a⟩
    · simp at e2; exact e2.1.symm
    · simp only [List.cons_append, List.cons.injEq] at e2
      obtain ⟨rfl, e2⟩ := e2
      have k1 := h1 y (by rw [e1]; simp) e.symm
      have k2 := g2 x (by rw [e2]; simp) e
      have := hp.anti x y
      omega
theorem FS.uniq (hp : Pre c) (hk : Kc c key) {L S T : List α} (h : FS c key L S) (g : FS c key L T) : S = T := by
  have sub : ∀ {S T : List α}, FS c key L S → FS c key L T → ∀ x ∈ S, x ∈ T := fun {S T} h g x hx => by
    obtain ⟨y, hy, e⟩ := g.cov x ((h.fst x hx).le hp).1
    rw [fst_uniq hp (h.fst x hx) (g.fst y hy) e.symm]; exact hy
  exact srt_ext hp hk h.srt h.uq g.srt g.uq fun x => ⟨sub h g x, sub g h x⟩
/-- Who is alike is the same. -/
def Al (c : α → α → Int) (L : List α) : Prop := ∀ x ∈ L, ∀ y ∈ L, c x y = 0 → x = y
theorem BS.uniq (hp : Pre c) (hk : Kc c key) {L L' S T : List α} (hA : Al c L) (h : BS c key L S) (g : BS c key L' T) (hm : ∀ x, x ∈ L ↔ x ∈ L') : S = T := by
  have key1 : ∀ x ∈ S, ∀ y ∈ T, key x = key y → x = y := fun x hx y hy e => by
    have a := h.least x hx y ((hm y).2 (g.mem y hy)) e.symm
    have b := g.least y hy x ((hm x).1 (h.mem x hx)) e
    exact hA x (h.mem x hx) y ((hm y).2 (g.mem y hy)) (by have := hp.anti x y; omega)
  refine srt_ext hp hk h.srt h.uq g.srt g.uq fun x => ⟨fun hx => ?_, fun hx => ?_⟩
  · obtain ⟨y, hy, e⟩ := g.cov x ((hm x).1 (h.mem x hx))
    rw [key1 x hx y hy e.symm]; exact hy
  · obtain ⟨y, hy, e⟩ := h.cov x ((hm x).2 (g.mem x hx))
    rw [← key1 y hy x hx e]; exact hy
theorem FS.self {L : List α} (h : Srtd c L) (g : Uq key L) : FS c key L L := by
  refine ⟨h, g, fun x hx => ?_, fun y hy => ⟨y, hy, rfl⟩⟩
  obtain ⟨A, B, rfl⟩ := List.append_of_mem hx
  obtain ⟨u1, u2, _⟩ := g.mid
  exact ⟨A, B, rfl, fun y hy e => absurd e (u1 y hy), fun y hy e => absurd e (u2 y hy)⟩
/-- One after the other comes. -/
def Upds (c : α → α → Int) (key : α → κ) (S : List α) : List α → List α → Prop
  | [], T => T = S
  | x :: xs, T => ∃ U, Upd c key S x U ∧ Upds c key U xs T
theorem Upds.ex : ∀ (xs S : List α), ∃ T, Upds c key S xs T
  | [], S => ⟨S, rfl⟩
  | x :: xs, S => by
    obtain ⟨U, hU⟩ := Upd.ex (c := c) (key := key) S x
    obtain ⟨T, hT⟩ := Upds.ex xs U
    exact ⟨T, U, hU, hT⟩
theorem FS.steps (hp : Pre c) : ∀ {xs L S T : List α}, FS c key L S → Upds c key S xs T → FS c key (L ++ xs) T
  | [], L, S, T, h, g => by cases g; rw [List.append_nil]; exact h
  | x :: xs, L, S, T, h, ⟨U, g1, g2⟩ => by
    have := FS.steps hp (h.step hp g1) g2
    rwa [List.append_assoc] at this
theorem BS.steps (hp : Pre c) : ∀ {xs L S T : List α}, BS c key L S → Upds c key S xs T → BS c key (L ++ xs) T
  | [], L, S, T, h, g => by cases g; rw [List.append_nil]; exact h
  | x :: xs, L, S, T, h, ⟨U, g1, g2⟩ => by
    have := BS.steps hp (h.step hp g1) g2
    rwa [List.append_assoc] at this
theorem FS.ex (hp : Pre c) (L : List α) : ∃ S, FS c key L S := by
  obtain ⟨T, hT⟩ := Upds.ex (c := c) (key := key) L []
  exact ⟨T, FS.steps hp .nil hT⟩
theorem BS.sub (hp : Pre c) {L Lb Sb T : List α} (h : BS c key (L ++ Sb) T) (g : BS c key Lb Sb) : BS c key (L ++ Lb) T := by
  refine ⟨h.srt, h.uq, fun x hx => ?_, fun x hx y hy e => ?_, fun y hy => ?_⟩
  · rcases List.mem_append.1 (h.mem x hx) with k | k
    · exact List.mem_append.2 (.inl k)
    · exact List.mem_append.2 (.inr (g.mem x k))
  · rcases List.mem_append.1 hy with k | k
    · exact h.least x hx y (List.mem_append.2 (.inl k)) e
    · obtain ⟨s, hs, e2⟩ := g.cov y k
      exact hp.trans (h.least x hx s (List.mem_append.2 (.inr hs)) (e2.trans e)) (g.least s hs y k e2.symm)
  · rcases List.mem_append.1 hy with k | k
    · exact h.cov y (List.mem_append.2 (.inl k))
    · obtain ⟨s, hs, e2⟩ := g.cov y k
      obtain ⟨t, ht, e3⟩ := h.cov s (List.mem_append.2 (.inr hs))
      exact ⟨t, ht, e3.trans e2⟩
theorem rest_step (hp : Pre c) {S T : List α} {x : α} {n : Nat} (h : Upd c key S x T) (hn : n ≤ S.length) (hx : ∀ z ∈ S.take n, c z x < 0) : T.take n = S.take n ∧ n ≤ T.length := by
  have hl : (S.take n).length = n := by rw [List.length_take]; omega
  rcases h with ⟨h1, rfl⟩ | ⟨A, w, B, rfl, h2, ⟨h3, rfl⟩ | ⟨h3, rfl⟩⟩
  · refine ⟨?_, by rw [insL_len]; omega⟩
    have : insL c x S = S.take n ++ insL c x (S.drop n) := by
      have := insL_before (B := S.drop n) hx
      rwa [List.take_append_drop] at this
    rw [this, take_pre (by omega), List.take_take, Nat.min_self]
  · exact ⟨rfl, hn⟩
  · have hA : n ≤ A.length := Classical.byContradiction fun g => by
      have : w ∈ (A ++ w :: B).take n := by
        rw [List.take_append]
        refine List.mem_append.2 (.inr ?_)
        obtain ⟨m, hm⟩ : ∃ m, n - A.length = m + 1 := ⟨n - A.length - 1, by omega⟩
        rw [hm]; exact List.mem_cons_self ..
      have := hx w this
      have := hp.anti x w
      omega
    refine ⟨?_, by rw [insL_len, List.length_append]; omega⟩
    rw [take_pre hA] at hx ⊢
    have e : A ++ B = A.take n ++ (A.drop n ++ B) := by rw [← List.append_assoc, List.take_append_drop]
    rw [e, insL_before hx, take_pre (by rw [List.length_take]; omega), List.take_take, Nat.min_self]
theorem rests (hp : Pre c) : ∀ {R S T : List α} {n : Nat}, Upds c key S R T → n ≤ S.length → (∀ x ∈ R, ∀ z ∈ S.take n, c z x < 0) → T.take n = S.take n
  | [], S, T, n, h, _, _ => by cases h; rfl
  | x :: R, S, T, n, ⟨U, h1, h2⟩, hn, hx => by
    obtain ⟨k1, k2⟩ := rest_step hp h1 hn (hx x (List.mem_cons_self ..))
    rw [rests hp h2 k2 fun y hy => by rw [k1]; exact hx y (List.mem_cons_of_mem _ hy), k1]
theorem pigeon : ∀ {Q F : List α}, Uq key Q → (∀ q ∈ Q, ∃ s ∈ F, key s = key q) → Q.length ≤ F.length
  | [], F, _, _ => Nat.zero_le _
  | q :: Q, F, hU, h => by
    have hU' := List.pairwise_cons.1 hU
    obtain ⟨s, hs, e⟩ := h q (List.mem_cons_self ..)
    obtain ⟨A, B, rfl⟩ := List.append_of_mem hs
    have := pigeon (F := A ++ B) hU'.2 fun q' hq' => by
      obtain ⟨s', hs', e'⟩ := h q' (List.mem_cons_of_mem _ hq')
      refine ⟨s', ?_, e'⟩
      simp only [List.mem_append, List.mem_cons] at hs' ⊢
      rcases hs' with k | k | k
      · exact .inl k
      · subst k; exact absurd (e.symm.trans e') (hU'.1 q' hq')
      · exact .inr k
    simp only [List.length_append, List.length_cons] at this ⊢
    omega
theorem count (hp : Pre c) {S Q : List α} {x : α} (hS : Srtd c S) (hQ : Uq key Q) (h : ∀ q ∈ Q, ∃ s ∈ S, key s = key q ∧ c s q ≤ 0) (hx : ∀ q ∈ Q, c q x < 0) : Q.length ≤ S.length ∧ ∀ z ∈ S.take Q.length, c z x < 0 := by
  have h1 := pigeon (F := S.filter fun s => decide (c s x < 0)) hQ fun q hq => by
    obtain ⟨s, hs, e, g⟩ := h q hq
    exact ⟨s, List.mem_filter.2 ⟨hs, by simpa using hp.le_lt g (hx q hq)⟩, e⟩
  refine ⟨Nat.le_trans h1 (List.length_filter_le _ _), fun z hz => Classical.byContradiction fun g => ?_⟩
  obtain ⟨i, hi, ez⟩ := mem_take hz
  have e2 : S.filter (fun s => decide (c s x < 0)) = (S.take i).filter fun s => decide (c s x < 0) := by
    have e3 : (S.drop i).filter (fun s => decide (c s x < 0)) = [] := by
      rw [List.filter_eq_nil_iff]
      intro y hy k
      obtain ⟨j, hj, ey⟩ := mem_drop hy
      exact g (hp.le_lt (srtd_get hp hS hj ez ey) (by simpa using k))
    conv => lhs; rw [← List.take_append_drop i S, List.filter_append, e3, List.append_nil]
  rw [e2] at h1
  have := List.length_filter_le (fun s => decide (c s x < 0)) (S.take i)
  rw [List.length_take] at this
  omega
/-- Two are merged of which each has been cut. -/
theorem merged (hp : Pre c) (hk : Kc c key) {La Lb Sa Sb S' : List α} {n : Nat} (ha : BS c key La Sa) (hb : BS c key Lb Sb) (h : Upds c key Sa (Sb.take n) S') : ∃ T, BS c key (La ++ Lb) T ∧ S'.take n = T.take n := by
  obtain ⟨T, hT⟩ := Upds.ex (c := c) (key := key) (Sb.drop n) S'
  have h1 := BS.steps hp ha h
  have h2 := BS.steps hp h1 hT
  rw [List.append_assoc, List.take_append_drop] at h2
  refine ⟨T, h2.sub hp hb, ?_⟩
  rcases Nat.lt_or_ge Sb.length n with g | g
  · rw [List.drop_of_length_le (by omega)] at hT
    cases hT; rfl
  · have hl : (Sb.take n).length = n := by rw [List.length_take]; omega
    have main : ∀ x ∈ Sb.drop n, n ≤ S'.length ∧ ∀ z ∈ S'.take n, c z x < 0 := fun x hx => by
      have := count hp (S := S') (Q := Sb.take n) (x := x) h1.srt (hb.uq.take n) (fun q hq => by
        obtain ⟨s, hs, e⟩ := h1.cov q (List.mem_append.2 (.inr hq))
        exact ⟨s, hs, e, h1.least s hs q (List.mem_append.2 (.inr hq)) e.symm⟩) (fun q hq => by
        have hs := hb.srt
        have hu := hb.uq
        rw [← List.take_append_drop n Sb] at hs hu
        exact lt_of hp hk ((srtd_append.1 hs).2.2 q hq x hx) ((List.pairwise_append.1 hu).2.2 q hq x hx))
      rwa [hl] at this
    cases hR : Sb.drop n with
    | nil => rw [hR] at hT; cases hT; rfl
    | cons x R =>
      rw [hR] at hT main
      exact (rests hp hT (main x (List.mem_cons_self ..)).1 fun y hy => (main y hy).2).symm
/-- Of a full one, with one more, none stands behind the last. -/
theorem full_le (hp : Pre c) (hk : Kc c key) {L T : List α} {x m : α} {k : Nat} (hS : Srtd c L) (hU : Uq key L) (h : Upd c key L x T) (hm : L[k]? = some m) (hl : L.length = k + 1) : (∀ z ∈ T.take (k + 1), c z m ≤ 0) ∧ k + 1 ≤ T.length := by
  have hL : ∀ z ∈ L, c z m ≤ 0 := fun z hz => by
    obtain ⟨i, hi, rfl⟩ := List.mem_iff_getElem.1 hz
    exact srtd_get hp hS (by omega) (List.getElem?_eq_getElem hi) hm
  rcases h with ⟨h1, rfl⟩ | ⟨A, w, B, rfl, h2, ⟨h3, rfl⟩ | ⟨h3, rfl⟩⟩
  · refine ⟨?_, by rw [insL_len]; omega⟩
    by_cases g : c x m ≤ 0
    · intro z hz
      rcases insL_mem.1 (List.mem_of_mem_take hz) with rfl | hz
      · exact g
      · exact hL z hz
    · have : ∀ z ∈ L, c z x < 0 := fun z hz => hp.le_lt (hL z hz) (by have := hp.anti m x; omega)
      rw [insL_end this, take_pre (by omega)]
      exact fun z hz => hL z (List.mem_of_mem_take hz)
  · exact ⟨fun z hz => hL z (List.mem_of_mem_take hz), by omega⟩
  · refine ⟨fun z hz => ?_, by rw [insL_len]; simp only [List.length_append, List.length_cons] at hl ⊢; omega⟩
    rcases insL_mem.1 (List.mem_of_mem_take hz) with rfl | hz
    · exact Int.le_of_lt (hp.lt_le h3 (hL w (by simp)))
    · refine hL z ?_
      simp only [List.mem_append, List.mem_cons] at hz ⊢
      rcases hz with hz | hz
      · exact .inl hz
      · exact .inr (.inr hz)
end
end Go.Proofs.YtmndbhgbngkakaaDoor.Z
