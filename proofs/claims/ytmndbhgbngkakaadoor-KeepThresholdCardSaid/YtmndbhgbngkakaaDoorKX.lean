/- Several texts of one claim in one file: YtmndbhgbngkakaaDoorSA, YtmndbhgbngkakaaDoorSB, YtmndbhgbngkakaaDoorSI, YtmndbhgbngkakaaDoorSJ. No condition. -/
import Derived.Test.YtmndbhgbngkakaaDoorNY
import Derived.Test.YtmndbhgbngkakaaDoorUC
import Derived.Test.YtmndbhgbngkakaaDoorV0
section
/- Sorting, plainly: a list that is in order, and that keeps who is alike in order, is one alone. No condition but those that are written out. -/
namespace Go.Proofs.YtmndbhgbngkakaaDoor.Z
set_option linter.all false

section
variable {α : Type} {c : α → α → Int}
/-- An order of all, in which some may be alike. -/
structure Pre (c : α → α → Int) : Prop where
  anti : ∀ x y, c y x = - c x y
  trans : ∀ {x y z}, c x y ≤ 0 → c y z ≤ 0 → c x z ≤ 0
theorem Pre.refl (h : Pre c) (x : α) : c x x = 0 := by have := h.anti x x; omega
theorem Pre.eq (h : Pre c) {x y z : α} (h1 : c x y = 0) (h2 : c y z = 0) : c x z = 0 := by
  have a := h.trans (x := x) (y := y) (z := z) (by omega) (by omega)
  have b := h.trans (x := z) (y := y) (z := x) (by rw [h.anti]; omega) (by rw [h.anti]; omega)
  have := h.anti x z
  omega
theorem Pre.sym (h : Pre c) {x y : α} (h1 : c x y = 0) : c y x = 0 := by rw [h.anti, h1]; rfl
theorem Pre.lt_le (h : Pre c) {x y z : α} (h1 : c x y < 0) (h2 : c y z ≤ 0) : c x z < 0 := by
  have a := h.trans (x := x) (y := y) (z := z) (by omega) h2
  rcases Int.lt_or_eq_of_le a with h3 | h3
  · exact h3
  · have b := h.trans (x := y) (y := z) (z := x) h2 (by rw [h.anti]; omega)
    rw [h.anti] at b
    omega
theorem Pre.le_lt (h : Pre c) {x y z : α} (h1 : c x y ≤ 0) (h2 : c y z < 0) : c x z < 0 := by
  have a := h.trans (x := x) (y := y) (z := z) h1 (by omega)
  rcases Int.lt_or_eq_of_le a with h3 | h3
  · exact h3
  · have b := h.trans (x := z) (y := x) (z := y) (by rw [h.anti]; omega) h1
    rw [h.anti] at b
    omega
/-- In order. -/
def Srtd (c : α → α → Int) (L : List α) : Prop := L.Pairwise fun x y => c x y ≤ 0
def lk (c : α → α → Int) (x : α) (L : List α) : List α := L.filter fun y => decide (c x y = 0)
/-- Who is alike stands as before. -/
def Stab (c : α → α → Int) (L R : List α) : Prop := ∀ x, lk c x R = lk c x L
theorem Stab.rfl {L : List α} : Stab c L L := fun _ => Eq.refl _
theorem Stab.trans {L M R : List α} (h : Stab c L M) (g : Stab c M R) : Stab c L R := fun x => (g x).trans (h x)
theorem lk_append (x : α) (L M : List α) : lk c x (L ++ M) = lk c x L ++ lk c x M := List.filter_append ..
theorem Stab.append {L L' M M' : List α} (h : Stab c L L') (g : Stab c M M') : Stab c (L ++ M) (L' ++ M') := fun x => by rw [lk_append, lk_append, h x, g x]
theorem lk_mem {x y : α} {L : List α} : y ∈ lk c x L ↔ y ∈ L ∧ c x y = 0 := by simp [lk]
theorem Stab.mem (hp : Pre c) {L R : List α} (h : Stab c L R) {x : α} : x ∈ R ↔ x ∈ L := by
  have h1 : x ∈ lk c x R ↔ x ∈ lk c x L := by rw [h x]
  simpa [lk_mem, hp.refl] using h1
theorem uniq (hp : Pre c) : ∀ {L R : List α}, Srtd c L → Srtd c R → Stab c L R → L = R
  | [], [], _, _, _ => rfl
  | [], b :: R, _, _, h => by
    have := (h.mem hp (x := b)).1 (List.mem_cons_self ..)
    cases this
  | a :: L, [], _, _, h => by
    have := (h.mem hp (x := a)).2 (List.mem_cons_self ..)
    cases this
  | a :: L, b :: R, hL, hR, h => by
    have hL' := List.pairwise_cons.1 hL
    have hR' := List.pairwise_cons.1 hR
    have h1 : c a b ≤ 0 := by
      rcases List.mem_cons.1 ((h.mem hp (x := b)).1 (List.mem_cons_self ..)) with e | e
      · rw [e, hp.refl]; exact Int.le_refl _
      · exact hL'.1 b e
    have h2 : c b a ≤ 0 := by
      rcases List.mem_cons.1 ((h.mem hp (x := a)).2 (List.mem_cons_self ..)) with e | e
      · rw [e, hp.refl]; exact Int.le_refl _
      · exact hR'.1 a e
    have h3 : c a b = 0 := by have := hp.anti a b; omega
    have e : a = b := by
      have := h a
      simp only [lk, List.filter_cons, h3, hp.refl, decide_true, if_true, List.cons.injEq] at this
      exact this.1.symm
    subst e
    congr 1
    refine uniq hp hL'.2 hR'.2 fun x => ?_
    have := h x
    by_cases hx : c x a = 0
    · simpa only [lk, List.filter_cons, hx, decide_true, if_true, List.cons.injEq, true_and] using this
    · simpa only [lk, List.filter_cons, hx, decide_false, Bool.false_eq_true, if_false] using this
def insL (c : α → α → Int) (x : α) : List α → List α
  | [] => [x]
  | y :: ys => if c y x < 0 then y :: insL c x ys else x :: y :: ys
/-- In order, who is alike as before. -/
def srt (c : α → α → Int) : List α → List α
  | [] => []
  | x :: L => insL c x (srt c L)
theorem insL_mem {x y : α} : ∀ {L : List α}, y ∈ insL c x L ↔ y = x ∨ y ∈ L
  | [] => by simp [insL]
  | z :: L => by
    unfold insL
    split
    · simp only [List.mem_cons, insL_mem (L := L)]
      constructor
      · rintro (h | h | h) <;> simp [h]
      · rintro (h | h | h) <;> simp [h]
    · simp
theorem insL_srtd (hp : Pre c) {x : α} : ∀ {L : List α}, Srtd c L → Srtd c (insL c x L)
  | [], _ => List.pairwise_singleton ..
  | y :: L, h => by
    have h' := List.pairwise_cons.1 h
    unfold insL
    split
    · rename_i hl
      refine List.pairwise_cons.2 ⟨fun z hz => ?_, insL_srtd hp h'.2⟩
      rcases insL_mem.1 hz with rfl | hz
      · omega
      · exact h'.1 z hz
    · rename_i hl
      have hxy : c x y ≤ 0 := by rw [hp.anti]; omega
      refine List.pairwise_cons.2 ⟨fun z hz => ?_, h⟩
      rcases List.mem_cons.1 hz with rfl | hz
      · exact hxy
      · exact hp.trans hxy (h'.1 z hz)
theorem insL_stab (hp : Pre c) {x : α} : ∀ {L : List α}, Stab c (x :: L) (insL c x L)
  | [], _ => rfl
  | y :: L, z => by
    unfold insL
    split
    · rename_i hl
      have ih := insL_stab hp (x := x) (L := L) z
      simp only [lk] at *
      rw [List.filter_cons, ih]
      simp only [List.filter_cons]
      by_cases h1 : c z y = 0
      · by_cases h2 : c z x = 0
        · have := hp.eq (hp.sym h1) h2
          omega
        · simp [h1, h2]
      · simp [h1]
    · rfl
theorem srt_srtd (hp : Pre c) : ∀ (L : List α), Srtd c (srt c L)
  | [] => List.Pairwise.nil
  | _ :: L => insL_srtd hp (srt_srtd hp L)
theorem srt_stab (hp : Pre c) : ∀ (L : List α), Stab c L (srt c L)
  | [] => .rfl
  | x :: L => (Stab.append (L := [x]) .rfl (srt_stab hp L)).trans (insL_stab hp)
theorem srt_of (hp : Pre c) {L R : List α} (h : Srtd c R) (g : Stab c L R) : R = srt c L := uniq hp h (srt_srtd hp L) fun x => ((srt_stab hp L) x).trans (g x).symm
theorem insL_len {x : α} : ∀ {L : List α}, (insL c x L).length = L.length + 1
  | [] => rfl
  | y :: L => by
    unfold insL
    split
    · simp [insL_len (L := L)]
    · rfl
/-- Two parts of which each in the second stands ahead of each in the first may change places. -/
theorem stab_swap (hp : Pre c) {X Y : List α} (h : ∀ x ∈ X, ∀ y ∈ Y, c y x < 0) : Stab c (X ++ Y) (Y ++ X) := fun z => by
  rw [lk_append, lk_append]
  rcases e : lk c z X with _ | ⟨x, X'⟩
  · simp
  · rcases e' : lk c z Y with _ | ⟨y, Y'⟩
    · simp
    · have hx := lk_mem.1 (e ▸ List.mem_cons_self .. : x ∈ lk c z X)
      have hy := lk_mem.1 (e' ▸ List.mem_cons_self .. : y ∈ lk c z Y)
      have := h x hx.1 y hy.1
      have := hp.eq (hp.sym hy.2) hx.2
      omega
theorem srtd_append {X Y : List α} : Srtd c (X ++ Y) ↔ Srtd c X ∧ Srtd c Y ∧ ∀ x ∈ X, ∀ y ∈ Y, c x y ≤ 0 := List.pairwise_append
/-- What is in order is left. -/
theorem srt_id (hp : Pre c) {L : List α} (h : Srtd c L) : srt c L = L := (srt_of hp h .rfl).symm
end
end Go.Proofs.YtmndbhgbngkakaaDoor.Z
end
section
/- Merging, plainly: what is cut in two and merged by parts is in order. No condition but those that are written out. -/
namespace Go.Proofs.YtmndbhgbngkakaaDoor.Z
set_option linter.all false

section
variable {α : Type} {c : α → α → Int}
theorem srtd_get (hp : Pre c) {L : List α} (h : Srtd c L) {i j : Nat} {x y : α} (hij : i ≤ j) (hx : L[i]? = some x) (hy : L[j]? = some y) : c x y ≤ 0 := by
  rcases Nat.lt_or_eq_of_le hij with h1 | h1
  · obtain ⟨hi, rfl⟩ := List.getElem?_eq_some_iff.1 hx
    obtain ⟨hj, rfl⟩ := List.getElem?_eq_some_iff.1 hy
    exact List.pairwise_iff_getElem.1 h i j hi hj h1
  · subst h1
    rw [hx] at hy; cases hy
    rw [hp.refl]; exact Int.le_refl _
theorem mem_take {L : List α} {n : Nat} {x : α} (h : x ∈ L.take n) : ∃ i, i < n ∧ L[i]? = some x := by
  obtain ⟨i, hi, rfl⟩ := List.mem_iff_getElem.1 h
  rw [List.length_take] at hi
  exact ⟨i, by omega, by rw [List.getElem_take, List.getElem?_eq_getElem]⟩
theorem mem_drop {L : List α} {n : Nat} {x : α} (h : x ∈ L.drop n) : ∃ i, n ≤ i ∧ L[i]? = some x := by
  obtain ⟨i, hi, rfl⟩ := List.mem_iff_getElem.1 h
  rw [List.length_drop] at hi
  exact ⟨n + i, by omega, by rw [List.getElem_drop, List.getElem?_eq_getElem]⟩
/-- A list that is cut into blocks, of which each is put in order. -/
def cutA (c : α → α → Int) : List Nat → List α → List α
  | [], _ => []
  | n :: ns, M => srt c (M.take n) ++ cutA c ns (M.drop n)
def cut (c : α → α → Int) (ns : List Nat) (M : List α) : List α := cutA c ns M ++ M.drop ns.sum
theorem cut_all (M : List α) {n : Nat} (h : M.length ≤ n) : cut c [n] M = srt c M := by
  unfold cut
  simp [cutA, List.take_of_length_le h, List.drop_of_length_le h]
end
end Go.Proofs.YtmndbhgbngkakaaDoor.Z
end
section
/- Rows of items over plain data. No condition but those that are written out. -/
namespace Go.Proofs.YtmndbhgbngkakaaDoor.Z
open Go Go.RowKit Go.Proofs.YtmndbhgbngkakaaDoor.E Go.Proofs.YtmndbhgbngkakaaDoor.G
set_option linter.all false

def itF (x : It) : FV := .agg [.str x.key, .int .u64 x.u, .int .u64 x.w]
def its (L : List It) : List FV := L.map itF
def gi (L : List It) (n : Nat) : It := L.getD n ⟨ByteArray.empty, 0, 0⟩
theorem its_len (L : List It) : (its L).length = L.length := List.length_map _
theorem its_nth (L : List It) (n : Nat) : G.nth (its L) n = match L[n]? with | some x => itF x | none => .dead := by
  unfold G.nth its
  rw [List.getD_eq_getElem?_getD, List.getElem?_map]
  cases L[n]? <;> rfl
theorem its_key (L : List It) (n : Nat) : ((G.nth (its L) n).cell 0).toS = (gi L n).key := by
  rw [its_nth]; unfold gi; rw [List.getD_eq_getElem?_getD]
  cases L[n]? <;> rfl
theorem its_u (L : List It) (n : Nat) : ((G.nth (its L) n).cell 1).toI = (gi L n).u := by
  rw [its_nth]; unfold gi; rw [List.getD_eq_getElem?_getD]
  cases L[n]? <;> rfl
theorem its_w (L : List It) (n : Nat) : ((G.nth (its L) n).cell 2).toI = (gi L n).w := by
  rw [its_nth]; unfold gi; rw [List.getD_eq_getElem?_getD]
  cases L[n]? <;> rfl
theorem it_eta (x : It) : (⟨x.key, x.u, x.w⟩ : It) = x := rfl
theorem gi_mem {L : List It} {n : Nat} (h : n < L.length) : gi L n ∈ L := by
  unfold gi
  rw [List.getD_eq_getElem?_getD, List.getElem?_eq_getElem h]
  exact List.getElem_mem h
theorem gi_at {L : List It} {n : Nat} (h : n < L.length) : gi L n = L[n] := by
  unfold gi
  rw [List.getD_eq_getElem?_getD, List.getElem?_eq_getElem h]; rfl
theorem its_take (L : List It) (n : Nat) : (its L).take n = its (L.take n) := by simp [its, List.map_take]
theorem its_drop (L : List It) (n : Nat) : (its L).drop n = its (L.drop n) := by simp [its, List.map_drop]
theorem its_app (L M : List It) : its L ++ its M = its (L ++ M) := by simp [its]
theorem its_one (x : It) : [itF x] = its [x] := rfl
theorem all_gi {p : It → Bool} {L : List It} (h : ∀ i, i < L.length → p (gi L i) = true) : L.all p = true := by
  rw [List.all_eq_true]
  intro x hx
  obtain ⟨i, hi, e⟩ := List.mem_iff_getElem.1 hx
  have := h i hi
  rw [gi_at hi, e] at this
  exact this
theorem not_all {p : It → Bool} {L : List It} {i : Nat} (hi : i < L.length) (h : p (gi L i) = false) : L.all p = false := by
  rw [List.all_eq_false]
  exact ⟨_, gi_mem hi, by simp [h]⟩
theorem wsucc {w : Int} {k : Nat} (h : w = k) (hk : k < 9223372036854775807) : IntKind.i64.wrap (w + 1) = ((k + 1 : Nat) : Int) := by rw [i64w, h]; unfold wrap64; omega
/-- Items that may be. -/
abbrev Gi := { x : It // x.ok ∧ 0 < x.w }
def cG (x y : Gi) : Int := cmpIt x.1 y.1
theorem cG_pre : Pre cG := ⟨fun x y => cmp_anti _ _, fun {x y z} h g => cmp_trans x.2.2 y.2.2 z.2.2 h g⟩
def gs (L : List Gi) : List It := L.map (·.1)
theorem gs_len (L : List Gi) : (gs L).length = L.length := List.length_map _
theorem gs_app (L M : List Gi) : gs (L ++ M) = gs L ++ gs M := by simp [gs]
theorem gs_of : ∀ {L : List It}, (∀ x ∈ L, x.ok ∧ 0 < x.w) → ∃ M : List Gi, L = gs M
  | [], _ => ⟨[], rfl⟩
  | x :: L, h => by
    obtain ⟨M, e⟩ := gs_of fun y hy => h y (List.mem_cons_of_mem _ hy)
    exact ⟨⟨x, h x (List.mem_cons_self ..)⟩ :: M, congrArg (x :: ·) e⟩
theorem toN {w : Int} {n : Nat} (h : w = (n : Int)) : w.toNat = n := by rw [h]; rfl
theorem snoc {α : Type} {X : List α} (h : 0 < X.length) : ∃ X' z, X = X' ++ [z] := ⟨X.dropLast, X.getLast (List.ne_nil_of_length_pos h), (List.dropLast_concat_getLast _).symm⟩
theorem gs_ok {L : List Gi} : ∀ x ∈ gs L, x.ok := fun x hx => by
  obtain ⟨y, _, rfl⟩ := List.mem_map.1 hx
  exact y.2.1
end Go.Proofs.YtmndbhgbngkakaaDoor.Z
end
section
/- Rows of items: what stands where; numbers between two. No condition but those that are written out. -/
namespace Go.Proofs.YtmndbhgbngkakaaDoor.Z
open Go Go.RowKit Go.Proofs.YtmndbhgbngkakaaDoor.E Go.Proofs.YtmndbhgbngkakaaDoor.G
set_option linter.all false

theorem wmid {a b : Int} {p q : Nat} (h : a = p) (h' : b = q) (hk : p + q < 9223372036854775808) : IntKind.i64.wrap (IntKind.u64.wrap (IntKind.i64.wrap (a + b)) / 2) = (((p + q) / 2 : Nat) : Int) := by
  have e1 : IntKind.i64.wrap (a + b) = ((p + q : Nat) : Int) := by rw [i64w, h, h']; unfold wrap64; omega
  have e2 : IntKind.u64.wrap ((p + q : Nat) : Int) = ((p + q : Nat) : Int) := by
    have : IntKind.u64.wrap ((p + q : Nat) : Int) = ((p + q : Nat) : Int) % 18446744073709551616 := by simp [IntKind.wrap, IntKind.bits, IntKind.signed]
    rw [this]; omega
  rw [e1, e2, i64w]; unfold wrap64; omega
theorem p2 : (2 : Int) ^ min (Int.toNat 1) (IntKind.bits .u64) = 2 := by decide
section
variable {α : Type} {c : α → α → Int}
theorem sym1 (hp : Pre c) {x : α} {Y : List α} (hY : Srtd c Y) {s : Nat} (h1 : ∀ y, 0 < s → Y[s - 1]? = some y → c y x < 0) (h2 : ∀ y, Y[s]? = some y → ¬ c y x < 0) (hs : s ≤ Y.length) : Y.take s ++ x :: Y.drop s = srt c (x :: Y) := by
  have a := List.take_append_drop s Y
  have hd : ∀ y ∈ Y.take s, c y x < 0 := fun y hy => by
    obtain ⟨i, hi, ey⟩ := mem_take hy
    have h3 : s - 1 < Y.length := by omega
    exact hp.le_lt (srtd_get hp hY (by omega) ey (List.getElem?_eq_getElem h3)) (h1 _ (by omega) (List.getElem?_eq_getElem h3))
  have he : ∀ y ∈ Y.drop s, c x y ≤ 0 := fun y hy => by
    obtain ⟨i, hi, ey⟩ := mem_drop hy
    have h3 : s < Y.length := by have := (List.getElem?_eq_some_iff.1 ey).1; omega
    have g := h2 _ (List.getElem?_eq_getElem h3)
    have g2 : c x Y[s] ≤ 0 := by rw [hp.anti]; omega
    exact hp.trans g2 (srtd_get hp hY hi (List.getElem?_eq_getElem h3) ey)
  have hY' := hY
  rw [← a] at hY'
  obtain ⟨s1, s2, s3⟩ := srtd_append.1 hY'
  refine srt_of hp (srtd_append.2 ⟨s1, List.pairwise_cons.2 ⟨he, s2⟩, fun y hy z hz => ?_⟩) ?_
  · rcases List.mem_cons.1 hz with rfl | hz
    · have := hd y hy; omega
    · exact s3 y hy z hz
  · have e := Stab.append (stab_swap hp (X := [x]) (Y := Y.take s) (fun z hz y hy => by rw [List.mem_singleton.1 hz]; exact hd y hy)) (.rfl (L := Y.drop s))
    have b : ([x] ++ Y.take s) ++ Y.drop s = x :: Y := by rw [List.append_assoc, a]; rfl
    rw [b] at e
    simpa using e
end
end Go.Proofs.YtmndbhgbngkakaaDoor.Z
end
