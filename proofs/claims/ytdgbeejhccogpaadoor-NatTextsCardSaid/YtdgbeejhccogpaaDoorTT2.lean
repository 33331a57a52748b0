/- Texts: reading any text, by the program and by the document. No condition beyond the lists' lengths. -/
import Derived.Test.YtdgbeejhccogpaaDoorTT1
import Derived.Test.YtdgbeejhccogpaaDoorTR3
namespace Go.Proofs.YtdgbeejhccogpaaDoor.F
set_option linter.unusedSimpArgs false
set_option linter.unusedVariables false
open Go.RowKit Go.Proofs.YtdgbeejhccogpaaDoor.T Go.Proofs.YtdgbeejhccogpaaDoorW.PrintWords Go.Proofs.YtdgbeejhccogpaaDoorW.PrintLast Go.Proofs.YtdgbeejhccogpaaDoorW.PrintMore Go.Proofs.YtdgbeejhccogpaaDoor.M

/-- What a text of digits is read as. -/
def num (v : Nat) : List Int × Int := if v < 4294967296 ^ 64 then (lim v, 0) else ([], 6)
theorem drop_nil (p : UInt8 → Bool) : ∀ l : List UInt8, l.dropWhile p = [] → ∀ b ∈ l, p b = true
  | [], _, _, h => by cases h
  | c :: t, h, b, hb => by
    by_cases e : p c = true
    · rw [List.dropWhile_cons_of_pos e] at h
      rcases List.mem_cons.1 hb with rfl | hb
      · exact e
      · exact drop_nil p t h b hb
    · rw [List.dropWhile_cons_of_neg e] at h
      cases h
theorem dig_of {b : UInt8} (h : ([48, 49, 50, 51, 52, 53, 54, 55, 56, 57] : List UInt8).contains b = true) : 48 ≤ b.toNat ∧ b.toNat ≤ 57 := by
  have := List.contains_iff_mem.1 h
  simp only [List.mem_cons, List.not_mem_nil, or_false] at this
  rcases this with rfl | rfl | rfl | rfl | rfl | rfl | rfl | rfl | rfl | rfl <;> decide
theorem take_all (p : UInt8 → Bool) : ∀ (l : List UInt8) (b : UInt8), b ∈ l.takeWhile p → p b = true
  | [], _, h => by cases h
  | c :: t, b, h => by
    by_cases e : p c = true
    · rw [List.takeWhile_cons_of_pos e] at h
      rcases List.mem_cons.1 h with rfl | h
      · exact e
      · exact take_all p t b h
    · rw [List.takeWhile_cons_of_neg e] at h
      cases h
instance (l : List UInt8) : Decidable (Dg l) := inferInstanceAs (Decidable (∀ b ∈ l, 48 ≤ b.toNat ∧ b.toNat ≤ 57))
theorem trim_not {l : List UInt8} (h : ¬ Dg l) : Lib.trimS l [48, 49, 50, 51, 52, 53, 54, 55, 56, 57] ≠ [] := by
  intro e
  apply h
  unfold Lib.trimS Lib.trimLeftS at e
  have a := drop_nil _ _ e
  unfold Lib.trimRightS at a
  intro b hb
  have hs : l.reverse.takeWhile (([48, 49, 50, 51, 52, 53, 54, 55, 56, 57] : List UInt8).contains ·) ++ l.reverse.dropWhile (([48, 49, 50, 51, 52, 53, 54, 55, 56, 57] : List UInt8).contains ·) = l.reverse := List.takeWhile_append_dropWhile
  have hb2 : b ∈ l.reverse := List.mem_reverse.2 hb
  rw [← hs] at hb2
  rcases List.mem_append.1 hb2 with c | c
  · exact dig_of (take_all _ _ _ c)
  · exact dig_of (a b (List.mem_reverse.2 c))
theorem read_l0' (l : List UInt8) (hd : Dg l) (hl : l.length < 1000000000) (m : Nat) : ∀ (a i : Nat), i + m = l.length → a < 4294967296 ^ 64 →
    Ev (fun k => nat_Read.l0 k ⟨l.toArray⟩ (lim a) (l.length : Int) (i : Int)) (num (dval (l.drop i) a)) := by
  induction m with
  | zero =>
    intro a i h ha
    rw [List.drop_eq_nil_of_le (by omega)]
    refine Ev.step (f := fun _ => some (lim a, 0)) (fun k => ?_) ?_
    · rw [nat_Read.l0.eq_2, if_neg (by omega)]
    · unfold num
      rw [if_pos (show dval [] a < _ from ha)]
      exact Ev.now _
  | succ m ih =>
    intro a i h ha
    have hi : i < l.length := by omega
    have hb := hd _ (List.getElem_mem hi)
    have ed : l.drop i = l[i] :: l.drop (i + 1) := List.drop_eq_getElem_cons hi
    rw [ed]
    simp only [dval]
    have hge := dval_ge (l.drop (i + 1)) (10 * a + ((l[i]).toNat - 48))
    have la := len_le.2 ha
    have lm : (lim (a * 10)).length ≤ 65 := len_le.2 (by rw [show (65 : Nat) = 64 + 1 from rfl, Nat.pow_succ]; omega)
    have l10 : (lim 10).length ≤ 1 := len_le.2 (by decide)
    have T := times_ev a 10 (by omega) (by omega)
    obtain ⟨d, hdd⟩ : ∃ d, d = (l[i]).toNat - 48 := ⟨_, rfl⟩
    have ld : (lim d).length ≤ 1 := len_le.2 (by rw [Nat.pow_one]; omega)
    have S := sum_ev (a * 10) d (by omega) (by omega)
    have O10 := of_ev 10 (by decide)
    have Od := of_ev' (x := (bt ⟨l.toArray⟩ (i : Int) - 48) % 256) d (by rw [bt_mk l i hi]; omega) (by omega)
    have ea : a * 10 + d = 10 * a + ((l[i]).toNat - 48) := by rw [Nat.mul_comm]; omega
    rw [ea] at S
    have c1 : (i : Int) < (l.length : Int) := n_lt hi
    have c2 : (0 : Int) ≤ (i : Int) := n_nn i
    have c3 : (i : Int) < (((⟨l.toArray⟩ : ByteArray).size : Nat) : Int) := n_lt hi
    have c5 : wrap64 ((i : Int) + 1) = ((i + 1 : Nat) : Int) := w_succ (by omega)
    refine Ev.step (fun k => nat_Read.l0.eq_2 _ _ _ _ k) ?_
    simp only [if_pos c1]
    refine Ev.bind O10 ?_
    refine Ev.bind T ?_
    simp only [if_pos c2, if_pos c3]
    refine Ev.bind Od ?_
    refine Ev.bind S ?_
    by_cases hs : 10 * a + ((l[i]).toNat - 48) < 4294967296 ^ 64
    · have ls := len_le.2 hs
      have c4 : ¬ (((lim (10 * a + ((l[i]).toNat - 48))).length : Int) > 64) := by clear c5; omega
      have L := ih (10 * a + ((l[i]).toNat - 48)) (i + 1) (by clear c5; omega) hs
      simp only [if_neg c4, c5]
      exact L
    · have ls : 64 < (lim (10 * a + ((l[i]).toNat - 48))).length := len_lt.2 (by clear c5; omega)
      have c4 : (((lim (10 * a + ((l[i]).toNat - 48))).length : Int) > 64) := by clear c5; omega
      simp only [if_pos c4]
      unfold num
      rw [if_neg (fun h' => hs (Nat.lt_of_le_of_lt hge h'))]
      exact Ev.now _
/-- What any text is read as. -/
def said (l : List UInt8) : List Int × Int := if l = [] ∨ (l.getD 0 0 = 48 ∧ 1 < l.length) ∨ ¬ Dg l then ([], 2) else num (dval l 0)
theorem bt_head (l : List UInt8) (h : l ≠ []) : (bt ⟨l.toArray⟩ 0 = 48 ↔ l.getD 0 0 = 48) := by
  obtain ⟨b, t, rfl⟩ := List.exists_cons_of_ne_nil h
  have hb := bt_mk (b :: t) 0 (by simp)
  rw [Int.ofNat_zero] at hb
  rw [hb]
  have e1 : ((b :: t)[0]).toNat = b.toNat := rfl
  have e2 : (b :: t).getD 0 0 = b := rfl
  rw [e1, e2]
  constructor
  · intro c
    exact UInt8.toNat_inj.1 (by rw [show (48 : UInt8).toNat = 48 from rfl]; omega)
  · intro c
    rw [c]; rfl
theorem read_all (l : List UInt8) (hl : l.length < 1000000000) : Ev (fun k => nat_Read.f k ⟨l.toArray⟩) (said l) := by
  have jt : Ev (fun k => nat_Read.j0 k ⟨l.toArray⟩ true) ([], 2) := Ev.step (fun k => nat_Read.j0.eq_2 _ _ k) (by simp only [if_true]; exact Ev.now _)
  unfold nat_Read.f
  rw [toList_mk]
  unfold said
  by_cases hn : l = []
  · simp only [if_pos hn, if_pos (Or.inl hn)]
    exact jt
  · have lp : 0 < l.length := List.length_pos_iff.2 hn
    have q : Ev (fun k => (strings_Trim.f ⟨l.toArray⟩ ⟨#[48, 49, 50, 51, 52, 53, 54, 55, 56, 57]⟩).bind fun t => nat_Read.j0 k ⟨l.toArray⟩ (t.toList != ([] : List UInt8))) (if ¬ Dg l then ([], 2) else num (dval l 0)) := by
      have tl : strings_Trim.f ⟨l.toArray⟩ ⟨#[48, 49, 50, 51, 52, 53, 54, 55, 56, 57]⟩ = some ⟨(Lib.trimS l [48, 49, 50, 51, 52, 53, 54, 55, 56, 57]).toArray⟩ := by
        unfold strings_Trim.f
        rw [if_pos ⟨by rw [size_mk]; omega, by decide, by decide⟩]
      rw [tl]
      simp only [ob, toList_mk]
      by_cases hd : Dg l
      · rw [trim_digits hd, if_neg (not_not_intro hd)]
        refine Ev.step (fun k => nat_Read.j0.eq_2 _ _ k) ?_
        have L := read_l0' l hd hl l.length 0 0 (by omega) (Nat.pos_of_ne_zero (by simp))
        rw [lim_zero, List.drop_zero] at L
        exact L
      · rw [if_pos hd, show (Lib.trimS l [48, 49, 50, 51, 52, 53, 54, 55, 56, 57] != []) = true from bne_iff_ne.2 (trim_not hd)]
        exact jt
    simp only [if_neg hn, if_pos (show (0 : Int) < (((⟨l.toArray⟩ : ByteArray).size : Nat) : Int) from n_lt lp)]
    by_cases c : bt ⟨l.toArray⟩ 0 = 48
    · have c' := (bt_head l hn).1 c
      simp only [if_pos c]
      by_cases d : 1 < l.length
      · have d' : (((⟨l.toArray⟩ : ByteArray).size : Nat) : Int) > 1 := by rw [size_mk]; omega
        simp only [if_pos d', if_pos (show l = [] ∨ (l.getD 0 0 = 48 ∧ 1 < l.length) ∨ ¬ Dg l from Or.inr (Or.inl ⟨c', d⟩))]
        exact jt
      · have d' : ¬ ((((⟨l.toArray⟩ : ByteArray).size : Nat) : Int) > 1) := by rw [size_mk]; omega
        simp only [if_neg d']
        by_cases hd : Dg l
        · rw [if_neg (by rintro (h | h | h); exact hn h; exact d h.2; exact h hd)]
          rw [if_neg (not_not_intro hd)] at q
          exact q
        · rw [if_pos (Or.inr (Or.inr hd))]
          rw [if_pos hd] at q
          exact q
    · have c' : ¬ l.getD 0 0 = 48 := fun h => c ((bt_head l hn).2 h)
      simp only [if_neg c]
      by_cases hd : Dg l
      · rw [if_neg (by rintro (h | h | h); exact hn h; exact c' h.1; exact h hd)]
        rw [if_neg (not_not_intro hd)] at q
        exact q
      · rw [if_pos (Or.inr (Or.inr hd))]
        rw [if_pos hd] at q
        exact q
end Go.Proofs.YtdgbeejhccogpaaDoor.F
