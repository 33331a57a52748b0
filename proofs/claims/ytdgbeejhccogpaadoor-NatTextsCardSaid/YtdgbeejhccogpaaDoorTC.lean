/- Plain lemmas: digits with a carry, in any base: their value. No condition. -/
import Derived.Test.YtdgbeejhccogpaaDoorTM
namespace Go.Proofs.YtdgbeejhccogpaaDoor.M
set_option linter.unusedVariables false

/-- The value of digits of a base, the lowest first. -/
def vb (B : Int) : List Int → Int
  | [] => 0
  | x :: t => x + B * vb B t
theorem vb_val (l : List Int) : vb 4294967296 l = val l := by
  induction l with
  | nil => rfl
  | cons x t ih => simp only [vb, val, ih]
/-- Digits of a base. -/
def D (B : Int) (l : List Int) : Prop := ∀ x ∈ l, 0 ≤ x ∧ x < B
/-- Digits with a carry: of the sums s i, s (i+1), .., m of them; and the last carry. -/
def carr (B : Int) (s : Nat → Int) : Nat → Int → Nat → List Int × Int
  | 0, c, _ => ([], c)
  | m + 1, c, i => ((s i + c) % B :: (carr B s m ((s i + c) / B) (i + 1)).1, (carr B s m ((s i + c) / B) (i + 1)).2)
/-- The sums' value. -/
def vs (B : Int) (s : Nat → Int) : Nat → Nat → Int
  | 0, _ => 0
  | m + 1, i => s i + B * vs B s m (i + 1)
theorem carr_len (B : Int) (s : Nat → Int) (m : Nat) : ∀ c i, (carr B s m c i).1.length = m := by
  induction m with
  | zero => intro c i; rfl
  | succ m ih => intro c i; simp only [carr, List.length_cons, ih]
theorem carr_D {B : Int} (hB : 0 < B) (s : Nat → Int) (m : Nat) : ∀ c i, D B (carr B s m c i).1 := by
  induction m with
  | zero => intro c i x hx; cases hx
  | succ m ih =>
    intro c i x hx
    simp only [carr] at hx
    rcases List.mem_cons.1 hx with rfl | hx
    · exact ⟨Int.emod_nonneg _ (by omega), Int.emod_lt_of_pos _ hB⟩
    · exact ih _ _ x hx
theorem carr_val (B : Int) (s : Nat → Int) (m : Nat) : ∀ c i, vb B (carr B s m c i).1 + B ^ m * (carr B s m c i).2 = vs B s m i + c := by
  induction m with
  | zero => intro c i; simp [carr, vb, vs]
  | succ m ih =>
    intro c i
    have h := ih ((s i + c) / B) (i + 1)
    simp only [carr, vb, vs]
    have e : B ^ (m + 1) * (carr B s m ((s i + c) / B) (i + 1)).2 = B * (B ^ m * (carr B s m ((s i + c) / B) (i + 1)).2) := by rw [Int.pow_succ, Int.mul_comm (B ^ m) B, Int.mul_assoc]
    have d := Int.emod_add_mul_ediv (s i + c) B
    rw [e, Int.add_assoc, ← Int.mul_add, h, Int.mul_add]
    omega
theorem carr_congr (B : Int) {s s' : Nat → Int} (m : Nat) : ∀ c i, (∀ t, i ≤ t → s t = s' t) → carr B s m c i = carr B s' m c i := by
  induction m with
  | zero => intro c i h; rfl
  | succ m ih =>
    intro c i h
    simp only [carr]
    rw [h i (Nat.le_refl i), ih _ _ (fun t ht => h t (by omega))]
theorem vs_congr (B : Int) {s s' : Nat → Int} (m : Nat) : ∀ i, (∀ t, i ≤ t → t < i + m → s t = s' t) → vs B s m i = vs B s' m i := by
  induction m with
  | zero => intro i h; rfl
  | succ m ih =>
    intro i h
    simp only [vs]
    rw [h i (Nat.le_refl i) (by omega), ih _ (fun t ht h2 => h t (by omega) (by omega))]
theorem vs_add (B : Int) (f g : Nat → Int) (m : Nat) : ∀ i, vs B (fun t => f t + g t) m i = vs B f m i + vs B g m i := by
  induction m with
  | zero => intro i; rfl
  | succ m ih => intro i; simp only [vs, ih, Int.mul_add]; omega
theorem vs_sub (B : Int) (f g : Nat → Int) (m : Nat) : ∀ i, vs B (fun t => f t - g t) m i = vs B f m i - vs B g m i := by
  induction m with
  | zero => intro i; rfl
  | succ m ih => intro i; simp only [vs, ih, Int.mul_sub]; omega
theorem vs_mul (B x : Int) (f : Nat → Int) (m : Nat) : ∀ i, vs B (fun t => x * f t) m i = x * vs B f m i := by
  induction m with
  | zero => intro i; simp [vs]
  | succ m ih => intro i; simp only [vs, ih, Int.mul_add]; rw [← Int.mul_assoc, ← Int.mul_assoc, Int.mul_comm B x]
/-- A list's digits, from a place on, in so many places. -/
theorem vs_list (B : Int) (l : List Int) (m : Nat) : ∀ i, l.length ≤ i + m → vs B (fun t => l.getD t 0) m i = vb B (l.drop i) := by
  induction m with
  | zero => intro i h; rw [List.drop_of_length_le (by omega)]; rfl
  | succ m ih =>
    intro i h
    simp only [vs]
    by_cases c : i < l.length
    · rw [ih (i + 1) (by omega), List.drop_eq_getElem_cons c]
      simp [vb, List.getD, c]
    · rw [ih (i + 1) (by omega), List.drop_of_length_le (by omega), List.drop_of_length_le (by omega)]
      simp [vb, List.getD, List.getElem?_eq_none (Nat.le_of_not_lt c)]
theorem vs_seg (B : Int) (l : List Int) (k m : Nat) : ∀ i, k + i + m ≤ l.length → vs B (fun t => l.getD (k + t) 0) m i = vb B ((l.drop (k + i)).take m) := by
  induction m with
  | zero => intro i h; simp [vs, vb]
  | succ m ih =>
    intro i h
    have c : k + i < l.length := by omega
    simp only [vs]
    rw [ih (i + 1) (by omega), List.drop_eq_getElem_cons c]
    simp [vb, List.getD, c, Nat.add_assoc]
theorem vb_append (B : Int) (a b : List Int) : vb B (a ++ b) = vb B a + B ^ a.length * vb B b := by
  induction a with
  | nil => simp [vb]
  | cons x t ih =>
    simp only [List.cons_append, vb, ih, List.length_cons]
    rw [Int.mul_add, ← Int.mul_assoc, show B ^ (t.length + 1) = B * B ^ t.length from by rw [Int.pow_succ, Int.mul_comm]]
    omega
theorem D.nil (B : Int) : D B [] := fun _ h => by cases h
theorem D.cons {B x : Int} {t : List Int} (h0 : 0 ≤ x) (h1 : x < B) (h : D B t) : D B (x :: t) := fun y hy => by
  rcases List.mem_cons.1 hy with rfl | hy
  · exact ⟨h0, h1⟩
  · exact h y hy
theorem D.append {B : Int} {a b : List Int} (ha : D B a) (hb : D B b) : D B (a ++ b) := fun y hy => by
  rcases List.mem_append.1 hy with h | h
  · exact ha y h
  · exact hb y h
theorem D.take {B : Int} {a : List Int} (ha : D B a) (n : Nat) : D B (a.take n) := fun y hy => ha y (List.mem_of_mem_take hy)
theorem D.drop {B : Int} {a : List Int} (ha : D B a) (n : Nat) : D B (a.drop n) := fun y hy => ha y (List.mem_of_mem_drop hy)
theorem D.getD {B : Int} (hB : 0 < B) {a : List Int} (ha : D B a) (i : Nat) : 0 ≤ a.getD i 0 ∧ a.getD i 0 < B := by
  by_cases h : i < a.length
  · have := ha _ (List.getElem_mem h)
    simp [List.getD, h]
    exact this
  · simp [List.getD, List.getElem?_eq_none (Nat.le_of_not_lt h), hB]
theorem vb_nonneg {B : Int} (hB : 0 < B) {l : List Int} (h : D B l) : 0 ≤ vb B l := by
  induction l with
  | nil => exact Int.le_refl 0
  | cons x t ih =>
    have h1 := h x List.mem_cons_self
    have h2 := ih (fun y hy => h y (List.mem_cons_of_mem _ hy))
    have := Int.mul_nonneg (Int.le_of_lt hB) h2
    simp only [vb]
    omega
theorem vb_lt {B : Int} (hB : 0 < B) {l : List Int} (h : D B l) : vb B l < B ^ l.length := by
  induction l with
  | nil => simp [vb]
  | cons x t ih =>
    have h1 := h x List.mem_cons_self
    have h2 := ih (fun y hy => h y (List.mem_cons_of_mem _ hy))
    have : B * (vb B t + 1) ≤ B * B ^ t.length := Int.mul_le_mul_of_nonneg_left (by omega) (by omega)
    simp only [vb, List.length_cons]
    rw [Int.pow_succ, Int.mul_comm (B ^ t.length) B]
    rw [Int.mul_add] at this
    omega
theorem W_D {l : List Int} : W l ↔ D 4294967296 l := Iff.rfl
theorem getD_set_ne (l : List Int) (i j : Nat) (v : Int) (h : i ≠ j) : (l.set i v).getD j 0 = l.getD j 0 := by
  simp [List.getD, List.getElem?_set_ne h]
theorem getD_set_eq (l : List Int) (i : Nat) (v : Int) (h : i < l.length) : (l.set i v).getD i 0 = v := by
  simp [List.getD, h]
theorem getD_append_left (a b : List Int) (i : Nat) (h : i < a.length) : (a ++ b).getD i 0 = a.getD i 0 := by
  simp [List.getD, List.getElem?_append_left h]
theorem getD_append_right (a b : List Int) (i : Nat) (h : a.length ≤ i) : (a ++ b).getD i 0 = b.getD (i - a.length) 0 := by
  simp [List.getD, List.getElem?_append_right h]
end Go.Proofs.YtdgbeejhccogpaaDoor.M
