/- Texts: the document's reading of any text. No condition beyond the lists' lengths. -/
import Derived.Test.YtdgbeejhccogpaaDoorTT2
namespace Go.Proofs.YtdgbeejhccogpaaDoor.F
set_option linter.unusedSimpArgs false
set_option linter.unusedVariables false
open Go.RowKit Go.Proofs.YtdgbeejhccogpaaDoor.T Go.Proofs.YtdgbeejhccogpaaDoorW.PrintWords Go.Proofs.YtdgbeejhccogpaaDoorW.PrintLast Go.Proofs.YtdgbeejhccogpaaDoorW.PrintMore Go.Proofs.YtdgbeejhccogpaaDoor.M

theorem num_eq (v : Nat) : num v = if ((lim v).length : Int) > 64 then ([], 6) else (lim v, 0) := by
  unfold num
  by_cases c : v < 4294967296 ^ 64
  · have := len_le.2 c
    rw [if_pos c, if_neg (by omega)]
  · have : 64 < (lim v).length := len_lt.2 (by omega)
    rw [if_neg c, if_pos (by omega)]
theorem rread_l1 (l : List UInt8) (hd : Dg l) (hl : l.length ≤ 700) (m : Nat) : ∀ (a i : Nat), i + m = l.length → a < 4294967296 ^ i →
    Ev (fun k => samphireref02_Read.l1 k ⟨l.toArray⟩ (lim a) (i : Int)) (num (dval (l.drop i) a)) := by
  induction m with
  | zero =>
    intro a i h ha
    rw [List.drop_eq_nil_of_le (by omega)]
    have e : num (dval [] a) = if ((lim a).length : Int) > 64 then ([], 6) else (lim a, 0) := num_eq a
    rw [e]
    have c : ¬ (i : Int) < (((⟨l.toArray⟩ : ByteArray).size : Nat) : Int) := by rw [size_mk]; omega
    refine Ev.step (fun k => samphireref02_Read.l1.eq_2 _ _ _ k) ?_
    simp only [if_neg c]
    split
    · exact Ev.now _
    · exact Ev.now _
  | succ m ih =>
    intro a i h ha
    have hi : i < l.length := by omega
    have hb := hd _ (List.getElem_mem hi)
    have ed : l.drop i = l[i] :: l.drop (i + 1) := List.drop_eq_getElem_cons hi
    rw [ed]
    simp only [dval]
    have la := len_le.2 ha
    have ha' : 10 * a + ((l[i]).toNat - 48) < 4294967296 ^ (i + 1) := by rw [Nat.pow_succ]; omega
    have lm : (lim (a * 10)).length ≤ i + 1 := len_le.2 (by rw [Nat.pow_succ]; omega)
    have l10 : (lim 10).length ≤ 1 := len_le.2 (by decide)
    have T := rmul_ev a 10 (by omega) (by omega)
    have e10 : lim 10 = [10] := by rw [lim_pos (by decide), show (10 : Nat) / 4294967296 = 0 from rfl, lim_zero]; rfl
    rw [e10] at T
    have c1 : (i : Int) < (((⟨l.toArray⟩ : ByteArray).size : Nat) : Int) := n_lt hi
    have c2 : (0 : Int) ≤ (i : Int) := n_nn i
    have c5 : wrap64 ((i : Int) + 1) = ((i + 1 : Nat) : Int) := w_succ (by omega)
    have L := ih (10 * a + ((l[i]).toNat - 48)) (i + 1) (by clear c5; omega) ha'
    obtain ⟨d, hdd⟩ : ∃ d, d = (l[i]).toNat - 48 := ⟨_, rfl⟩
    have ea : a * 10 + d = 10 * a + ((l[i]).toNat - 48) := by rw [Nat.mul_comm]; clear c5; omega
    refine Ev.step (fun k => samphireref02_Read.l1.eq_2 _ _ _ k) ?_
    simp only [if_pos c1]
    refine Ev.bind T ?_
    simp only [if_pos c2, c5, bt_mk l i hi]
    by_cases z : (((l[i]).toNat : Nat) : Int) = 48
    · have e0 : a * 10 = 10 * a + ((l[i]).toNat - 48) := by clear c5; omega
      simp only [if_pos z, e0]
      exact L
    · have d0 : d ≠ 0 := by clear c5; omega
      have db : d < 4294967296 := by clear c5; omega
      have ed' : [((((l[i]).toNat : Nat) : Int) - 48) % 256] = lim d := by
        rw [lim_pos d0, Nat.mod_eq_of_lt db, Nat.div_eq_of_lt db, lim_zero]
        congr 1
        clear c5
        omega
      have ld : (lim d).length ≤ 1 := len_le.2 (by rw [Nat.pow_one]; exact db)
      have S := radd_ev (a * 10) d (by clear c5; omega) (by clear c5; omega)
      rw [ea] at S
      simp only [if_neg z, ed']
      exact Ev.bind S L
theorem rread_l0 (l : List UInt8) (hl : l.length < 1000000000) {R : List Int × Int} (h2 : ¬ Dg l → R = ([], 2)) (hf : Dg l → Ev (fun k => if (((⟨l.toArray⟩ : ByteArray).size : Nat) : Int) > 700 then some (([] : List Int), (6 : Int)) else samphireref02_Read.l1 k ⟨l.toArray⟩ [] 0) R) (m : Nat) :
    ∀ i : Nat, i + m = l.length → Dg (l.take i) → Ev (fun k => samphireref02_Read.l0 k ⟨l.toArray⟩ (i : Int)) R := by
  induction m with
  | zero =>
    intro i h hd
    rw [List.take_of_length_le (by omega)] at hd
    have c : ¬ (i : Int) < (((⟨l.toArray⟩ : ByteArray).size : Nat) : Int) := by rw [size_mk]; omega
    refine Ev.step (fun k => samphireref02_Read.l0.eq_2 _ _ k) ?_
    simp only [if_neg c]
    exact hf hd
  | succ m ih =>
    intro i h hd
    have hi : i < l.length := by omega
    have c1 : (i : Int) < (((⟨l.toArray⟩ : ByteArray).size : Nat) : Int) := n_lt hi
    have c2 : (0 : Int) ≤ (i : Int) := n_nn i
    have c5 : wrap64 ((i : Int) + 1) = ((i + 1 : Nat) : Int) := w_succ (by omega)
    refine Ev.step (fun k => samphireref02_Read.l0.eq_2 _ _ k) ?_
    simp only [if_pos c1, if_pos c2, c5, bt_mk l i hi]
    have mem : l[i] ∈ l := List.getElem_mem hi
    by_cases x : (((l[i]).toNat : Nat) : Int) < 48
    · simp only [if_pos x]
      rw [h2 (fun g => by have := g _ mem; clear c5; omega)]
      exact Ev.now _
    · simp only [if_neg x]
      by_cases y : (((l[i]).toNat : Nat) : Int) > 57
      · simp only [if_pos y]
        rw [h2 (fun g => by have := g _ mem; clear c5; omega)]
        exact Ev.now _
      · simp only [if_neg y]
        refine ih (i + 1) (by clear c5; omega) ?_
        have e : l.take (i + 1) = l.take i ++ [l[i]] := by rw [List.take_append_getElem hi]
        rw [e]
        intro b hb
        rcases List.mem_append.1 hb with g | g
        · exact hd b g
        · rw [List.mem_singleton.1 g]
          clear c5
          omega
theorem pw {m n : Nat} (hn : n = 64) (h : 10 * n ≤ m) : (4294967296 : Nat) ^ n ≤ 10 ^ m := by
  have a : (4294967296 : Nat) ^ n ≤ (10 ^ 10) ^ n := Nat.pow_le_pow_left (by decide) n
  rw [← Nat.pow_mul] at a
  exact Nat.le_trans a (Nat.pow_le_pow_right (by decide) h)
theorem dval_low (b : UInt8) (t : List UInt8) (h : 48 < b.toNat) : 10 ^ t.length ≤ dval (b :: t) 0 := by
  simp only [dval]
  rw [dval_lin]
  have : 1 * 10 ^ t.length ≤ (10 * 0 + (b.toNat - 48)) * 10 ^ t.length := Nat.mul_le_mul_right _ (by omega)
  omega
theorem rread_all (l : List UInt8) (hl : l.length < 1000000000) : Ev (fun k => samphireref02_Read.f k ⟨l.toArray⟩) (said l) := by
  have jt : Ev (fun k => samphireref02_Read.j0 k ⟨l.toArray⟩ true) ([], 2) := Ev.step (fun k => samphireref02_Read.j0.eq_2 _ _ k) (by simp only [if_true]; exact Ev.now _)
  unfold samphireref02_Read.f
  by_cases hn : l = []
  · have z : (((⟨l.toArray⟩ : ByteArray).size : Nat) : Int) = 0 := by rw [hn]; rfl
    unfold said
    simp only [if_pos z, if_pos (show l = [] ∨ (l.getD 0 0 = 48 ∧ 1 < l.length) ∨ ¬ Dg l from Or.inl hn)]
    exact jt
  · have lp : 0 < l.length := List.length_pos_iff.2 hn
    have z : ¬ (((⟨l.toArray⟩ : ByteArray).size : Nat) : Int) = 0 := by rw [size_mk]; omega
    simp only [if_neg z, if_pos (show (0 : Int) < (((⟨l.toArray⟩ : ByteArray).size : Nat) : Int) from n_lt lp)]
    have q : ¬ (l.getD 0 0 = 48 ∧ 1 < l.length) → Ev (fun k => samphireref02_Read.j0 k ⟨l.toArray⟩ false) (said l) := by
      intro hh
      refine Ev.step (fun k => samphireref02_Read.j0.eq_2 _ _ k) ?_
      simp only [Bool.false_eq_true, if_false]
      refine rread_l0 l hl (fun hd => ?_) (fun hd => ?_) l.length 0 (by omega) (fun b hb => by rw [List.take_zero] at hb; cases hb)
      · unfold said
        rw [if_pos (Or.inr (Or.inr hd))]
      · have es : said l = num (dval l 0) := by
          unfold said
          rw [if_neg (by rintro (h | h | h); exact hn h; exact hh h; exact h hd)]
        rw [es]
        by_cases c : l.length ≤ 700
        · have c' : ¬ ((((⟨l.toArray⟩ : ByteArray).size : Nat) : Int) > 700) := by rw [size_mk]; omega
          simp only [if_neg c']
          have L := rread_l1 l hd c l.length 0 0 (by omega) (by decide)
          rw [lim_zero, List.drop_zero] at L
          exact L
        · have c' : (((⟨l.toArray⟩ : ByteArray).size : Nat) : Int) > 700 := by rw [size_mk]; omega
          simp only [if_pos c']
          obtain ⟨b, t, rfl⟩ := List.exists_cons_of_ne_nil hn
          have hb := hd b List.mem_cons_self
          have hb' : b.toNat ≠ 48 := fun e => hh ⟨UInt8.toNat_inj.1 (by rw [show (48 : UInt8).toNat = 48 from rfl]; exact e), by omega⟩
          have low := dval_low b t (by omega)
          have lt : t.length = (b :: t).length - 1 := by simp
          have p := pw (m := t.length) (n := 64) rfl (by clear low; omega)
          unfold num
          rw [if_neg (fun h => Nat.lt_irrefl _ (Nat.lt_of_lt_of_le h (Nat.le_trans p low)))]
          exact Ev.now _
    by_cases c : bt ⟨l.toArray⟩ 0 = 48
    · have c' := (bt_head l hn).1 c
      simp only [if_pos c]
      by_cases d : 1 < l.length
      · have d' : (((⟨l.toArray⟩ : ByteArray).size : Nat) : Int) > 1 := by rw [size_mk]; omega
        rw [decide_eq_true d']
        unfold said
        rw [if_pos (Or.inr (Or.inl ⟨c', d⟩))]
        exact jt
      · have d' : ¬ ((((⟨l.toArray⟩ : ByteArray).size : Nat) : Int) > 1) := by rw [size_mk]; omega
        rw [decide_eq_false d']
        exact q (fun h => d h.2)
    · have c' : ¬ l.getD 0 0 = 48 := fun h => c ((bt_head l hn).2 h)
      simp only [if_neg c]
      exact q (fun h => c' h.1)
end Go.Proofs.YtdgbeejhccogpaaDoor.F
