/- Texts: what the program writes and reads, in numbers. No condition beyond the lists' lengths. -/
import Derived.Test.YtdgbeejhccogpaaDoorTD6
import Derived.Laws.Strings
namespace Go.Proofs.YtdgbeejhccogpaaDoor.F
set_option linter.unusedSimpArgs false
set_option linter.unusedVariables false
open Go.RowKit Go.Proofs.YtdgbeejhccogpaaDoor.T Go.Proofs.YtdgbeejhccogpaaDoorW.PrintWords Go.Proofs.YtdgbeejhccogpaaDoorW.PrintLast Go.Proofs.YtdgbeejhccogpaaDoorW.PrintMore Go.Proofs.YtdgbeejhccogpaaDoor.M

def Dg (l : List UInt8) : Prop := ∀ b ∈ l, 48 ≤ b.toNat ∧ b.toNat ≤ 57
def dval : List UInt8 → Nat → Nat
  | [], a => a
  | b :: t, a => dval t (10 * a + (b.toNat - 48))
theorem dval_app : ∀ (p q : List UInt8) (a : Nat), dval (p ++ q) a = dval q (dval p a)
  | [], _, _ => rfl
  | _ :: t, q, a => dval_app t q _
theorem dval_lin : ∀ (q : List UInt8) (a : Nat), dval q a = a * 10 ^ q.length + dval q 0
  | [], a => by simp [dval]
  | b :: t, a => by
    simp only [dval, List.length_cons]
    rw [dval_lin t (10 * a + _), dval_lin t (10 * 0 + _), Nat.pow_succ, Nat.add_mul, Nat.add_mul]
    rw [show 10 * a * 10 ^ t.length = a * (10 ^ t.length * 10) from by rw [Nat.mul_comm 10 a, Nat.mul_assoc, Nat.mul_comm 10]]
    omega
theorem dval_ge (q : List UInt8) (a : Nat) : a ≤ dval q a := by
  rw [dval_lin]
  have : a * 1 ≤ a * 10 ^ q.length := Nat.mul_le_mul_left a (Nat.pos_of_ne_zero (by simp))
  omega
def blk (r : Nat) : List UInt8 := [100000000, 10000000, 1000000, 100000, 10000, 1000, 100, 10, 1].map fun q => UInt8.ofNat (48 + r / q % 10)
theorem u8n {n : Nat} (h : n < 256) : (UInt8.ofNat n).toNat = n := by rw [UInt8.toNat_ofNat']; exact Nat.mod_eq_of_lt h
theorem blk_dg (r : Nat) : Dg (blk r) := by
  intro b hb
  obtain ⟨q, _, rfl⟩ := List.mem_map.1 hb
  have := Nat.mod_lt (r / q) (show 10 > 0 by decide)
  rw [u8n (by omega)]
  omega
theorem blk_val (r : Nat) (h : r < 1000000000) : dval (blk r) 0 = r := by
  have u : ∀ n, (UInt8.ofNat (48 + n % 10)).toNat - 48 = n % 10 := fun n => by
    have := Nat.mod_lt n (show 10 > 0 by decide)
    rw [u8n (by omega)]; omega
  simp only [blk, List.map, dval, u]
  omega
theorem digits_eq (r : Nat) (h : r < 1000000000) : nat_digits.f (r : Int) = some ⟨(blk r).toArray⟩ := by
  unfold nat_digits.f
  rw [if_pos ⟨by omega, by omega⟩]
  congr 1
  unfold strOfNums digs blk
  congr 2
  simp only [List.map, List.cons.injEq, and_true]
  refine ⟨congrArg _ ?_, congrArg _ ?_, congrArg _ ?_, congrArg _ ?_, congrArg _ ?_, congrArg _ ?_, congrArg _ ?_, congrArg _ ?_, congrArg _ ?_⟩ <;> omega
theorem dval_zero : ∀ l : List UInt8, dval (Lib.trimLeftS l [48]) 0 = dval l 0
  | [] => rfl
  | b :: t => by
    unfold Lib.trimLeftS
    by_cases c : b = 48
    · subst c
      rw [List.dropWhile_cons_of_pos (by decide)]
      exact dval_zero t
    · rw [List.dropWhile_cons_of_neg (by simpa using c)]
theorem trim_head : ∀ l : List UInt8, (∃ b t, Lib.trimLeftS l [48] = b :: t ∧ b ≠ 48) ∨ Lib.trimLeftS l [48] = []
  | [] => Or.inr rfl
  | b :: t => by
    unfold Lib.trimLeftS
    by_cases c : b = 48
    · subst c
      rw [List.dropWhile_cons_of_pos (by decide)]
      exact trim_head t
    · rw [List.dropWhile_cons_of_neg (by simpa using c)]
      exact Or.inl ⟨b, t, rfl, c⟩
theorem trim_dg {l : List UInt8} (h : Dg l) : Dg (Lib.trimLeftS l [48]) := fun b hb => h b ((List.dropWhile_sublist _).subset hb)
theorem size_mk (l : List UInt8) : (⟨l.toArray⟩ : ByteArray).size = l.length := rfl
theorem app_mk (p q : List UInt8) : (⟨p.toArray⟩ : ByteArray) ++ ⟨q.toArray⟩ = ⟨(p ++ q).toArray⟩ := by
  apply ByteArray.ext
  simp
theorem toList_mk (l : List UInt8) : (⟨l.toArray⟩ : ByteArray).toList = l := by simp
/-- What a text of the program's looks like. -/
def Good10 (l : List UInt8) : Prop := Dg l ∧ l ≠ [] ∧ (l.length = 1 ∨ ∀ b t, l = b :: t → b ≠ 48)
theorem blk_len (r : Nat) : (blk r).length = 9 := rfl
theorem text_l0 (m : Nat) : ∀ (x : Nat) (s : List UInt8), x < 1000000000 ^ m → (lim x).length < 1073741824 → Dg s → s.length + 9 * m < 1000000000 →
    ∃ l, Ev (fun k => nat_Text.l0 k (lim x) ⟨s.toArray⟩) ⟨l.toArray⟩ ∧ Good10 l ∧ dval l 0 = x * 10 ^ s.length + dval s 0 ∧ l.length ≤ s.length + 9 * m + 1 := by
  induction m with
  | zero =>
    intro x s h hx hs hl
    rw [Nat.pow_zero] at h
    have : x = 0 := by omega
    subst this
    have tl : strings_TrimLeft.f ⟨s.toArray⟩ ⟨#[48]⟩ = some ⟨(Lib.trimLeftS s [48]).toArray⟩ := by
      unfold strings_TrimLeft.f
      rw [if_pos ⟨by rw [size_mk]; omega, by decide, by decide⟩]
    refine ⟨if Lib.trimLeftS s [48] = [] then [48] else Lib.trimLeftS s [48], ?_, ?_, ?_, ?_⟩
    · refine Ev.step (f := fun _ => some _) (fun k => ?_) (Ev.now _)
      rw [nat_Text.l0.eq_2, lim_zero, if_neg (by simp), tl, ob, toList_mk]
      split <;> rfl
    · rcases trim_head s with ⟨b, t, e, hb⟩ | e
      · rw [e, if_neg (by simp), ← e]
        refine ⟨trim_dg hs, by rw [e]; simp, Or.inr (fun b' t' h' => ?_)⟩
        rw [e] at h'
        rw [← (List.cons.inj h').1]
        exact hb
      · rw [e, if_pos rfl]
        exact ⟨fun b hb => by rw [List.mem_singleton.1 hb]; decide, by simp, Or.inl rfl⟩
    · rw [Nat.zero_mul, Nat.zero_add, ← dval_zero s]
      split
      · rename_i e
        rw [e]; rfl
      · rfl
    · have : (Lib.trimLeftS s [48]).length ≤ s.length := (List.dropWhile_sublist _).length_le
      split
      · simp
      · omega
  | succ m ih =>
    intro x s h hx hs hl
    by_cases c : x = 0
    · subst c
      obtain ⟨l, e1, e2, e3, e4⟩ := ih 0 s (Nat.pos_of_ne_zero (by simp)) hx hs (by omega)
      exact ⟨l, e1, e2, e3, by omega⟩
    · have hr := Nat.mod_lt x (show 1000000000 > 0 by decide)
      have hn : (lim x).length ≠ 0 := fun e => c ((lim_len_zero x).1 e)
      have lq := len_mono (Nat.div_le_self x 1000000000)
      have hq : x / 1000000000 < 1000000000 ^ m := by
        rw [Nat.pow_succ] at h
        exact Nat.div_lt_of_lt_mul (by rw [Nat.mul_comm]; exact h)
      obtain ⟨l, e1, e2, e3, e4⟩ := ih (x / 1000000000) (blk (x % 1000000000) ++ s) hq (by omega)
        (fun b hb => (List.mem_append.1 hb).elim (blk_dg _ b) (hs b)) (by rw [List.length_append, blk_len]; omega)
      refine ⟨l, ?_, e2, ?_, by rw [List.length_append, blk_len] at e4; omega⟩
      · have p : ((lim x).length : Int) > 0 := by omega
        have S := short_ev x 1000000000 (by omega) (by decide) (by decide)
        refine Ev.step (fun k => nat_Text.l0.eq_2 _ _ k) ?_
        simp only [if_pos p]
        refine Ev.bind S ?_
        rw [digits_eq _ hr]
        simp only [ob]
        have q : (⟨(blk (x % 1000000000)).toArray⟩ : ByteArray).size + (⟨s.toArray⟩ : ByteArray).size ≤ 9223372036854775807 := by rw [size_mk, size_mk, blk_len]; omega
        simp only [if_pos q, app_mk]
        exact e1
      · rw [e3, List.length_append, blk_len, dval_app, dval_lin s (dval _ 0), blk_val _ hr, Nat.pow_add, ← Nat.mul_assoc, ← Nat.add_assoc, ← Nat.add_mul]
        congr 2
        omega
theorem text_ev (x : Nat) (hx : x < 4294967296 ^ 64) : ∃ l, Ev (fun k => nat_Text.f k (lim x)) ⟨l.toArray⟩ ∧ Good10 l ∧ dval l 0 = x ∧ l.length < 1000000000 := by
  have lx := len_le.2 hx
  have hm : (4294967296 : Nat) ^ 64 ≤ 1000000000 ^ 70 := by decide
  obtain ⟨l, a, b, c, d⟩ := text_l0 70 x [] (by omega) (by omega) (fun _ h => by cases h) (by decide)
  refine ⟨l, ?_, b, by rw [c]; simp [dval], by rw [List.length_nil] at d; omega⟩
  unfold nat_Text.f
  rw [right_eq (lim x) (by omega), right_lim hx]
  simp only [ob, if_true]
  exact a
theorem drop_all (p : UInt8 → Bool) : ∀ l : List UInt8, (∀ b ∈ l, p b = true) → l.dropWhile p = []
  | [], _ => rfl
  | b :: t, h => by
    rw [List.dropWhile_cons_of_pos (h b List.mem_cons_self)]
    exact drop_all p t (fun c hc => h c (List.mem_cons_of_mem _ hc))
theorem dig_in {b : UInt8} (h : 48 ≤ b.toNat ∧ b.toNat ≤ 57) : ([48, 49, 50, 51, 52, 53, 54, 55, 56, 57] : List UInt8).contains b = true := by
  have : b.toNat = 48 ∨ b.toNat = 49 ∨ b.toNat = 50 ∨ b.toNat = 51 ∨ b.toNat = 52 ∨ b.toNat = 53 ∨ b.toNat = 54 ∨ b.toNat = 55 ∨ b.toNat = 56 ∨ b.toNat = 57 := by omega
  have e : b = UInt8.ofNat b.toNat := by simp
  rcases this with h | h | h | h | h | h | h | h | h | h <;> (rw [h] at e; rw [e]; decide)
theorem trim_digits {l : List UInt8} (h : Dg l) : Lib.trimS l [48, 49, 50, 51, 52, 53, 54, 55, 56, 57] = [] := by
  unfold Lib.trimS Lib.trimRightS Lib.trimLeftS
  rw [drop_all _ l.reverse (fun b hb => dig_in (h b (List.mem_reverse.1 hb)))]
  rfl
theorem bt_mk (l : List UInt8) (i : Nat) (h : i < l.length) : bt ⟨l.toArray⟩ (i : Int) = ((l[i]'h).toNat : Int) := by
  unfold bt
  rw [dif_pos (show (i : Int).toNat < (⟨l.toArray⟩ : ByteArray).size by rw [size_mk]; simpa using h)]
  rfl
theorem read_l0 (l : List UInt8) (hd : Dg l) (hl : l.length < 1000000000) (m : Nat) : ∀ (a i : Nat), i + m = l.length → dval (l.drop i) a < 4294967296 ^ 64 →
    Ev (fun k => nat_Read.l0 k ⟨l.toArray⟩ (lim a) (l.length : Int) (i : Int)) (lim (dval (l.drop i) a), 0) := by
  induction m with
  | zero =>
    intro a i h _
    rw [List.drop_eq_nil_of_le (by omega)]
    refine Ev.step (f := fun _ => some (lim a, 0)) (fun k => ?_) (Ev.now _)
    rw [nat_Read.l0.eq_2, if_neg (by omega)]
  | succ m ih =>
    intro a i h hv
    have hi : i < l.length := by omega
    have hb := hd _ (List.getElem_mem hi)
    have ed : l.drop i = l[i] :: l.drop (i + 1) := List.drop_eq_getElem_cons hi
    rw [ed] at hv ⊢
    simp only [dval] at hv ⊢
    have hge := dval_ge (l.drop (i + 1)) (10 * a + ((l[i]).toNat - 48))
    have hs : 10 * a + ((l[i]).toNat - 48) < 4294967296 ^ 64 := Nat.lt_of_le_of_lt hge hv
    have ha : a < 4294967296 ^ 64 := by omega
    have la := len_le.2 ha
    have ls := len_le.2 hs
    have lm : (lim (a * 10)).length ≤ 64 := len_le.2 (by omega)
    have l10 : (lim 10).length ≤ 1 := len_le.2 (by decide)
    have T := times_ev a 10 (by omega) (by omega)
    obtain ⟨d, hdd⟩ : ∃ d, d = (l[i]).toNat - 48 := ⟨_, rfl⟩
    have ld : (lim d).length ≤ 1 := len_le.2 (by rw [Nat.pow_one]; omega)
    have S := sum_ev (a * 10) d (by omega) (by omega)
    have O10 := of_ev 10 (by decide)
    have Od := of_ev' (x := (bt ⟨l.toArray⟩ (i : Int) - 48) % 256) d (by rw [bt_mk l i hi]; omega) (by omega)
    have ea : a * 10 + d = 10 * a + ((l[i]).toNat - 48) := by rw [Nat.mul_comm]; omega
    rw [ea] at S
    have c1 : (i : Int) < (l.length : Int) := n_lt hi
    have c2 : (0 : Int) ≤ (i : Int) := n_nn i
    have c3 : (i : Int) < (((⟨l.toArray⟩ : ByteArray).size : Nat) : Int) := n_lt hi
    have c4 : ¬ (((lim (10 * a + ((l[i]).toNat - 48))).length : Int) > 64) := by omega
    have c5 : wrap64 ((i : Int) + 1) = ((i + 1 : Nat) : Int) := w_succ (by omega)
    have L := ih (10 * a + ((l[i]).toNat - 48)) (i + 1) (by omega) hv
    refine Ev.step (fun k => nat_Read.l0.eq_2 _ _ _ _ k) ?_
    simp only [if_pos c1]
    refine Ev.bind O10 ?_
    refine Ev.bind T ?_
    simp only [if_pos c2, if_pos c3]
    refine Ev.bind Od ?_
    refine Ev.bind S ?_
    simp only [if_neg c4, c5]
    exact L
theorem read_ev (l : List UInt8) (h : Good10 l) (hl : l.length < 1000000000) (hv : dval l 0 < 4294967296 ^ 64) : Ev (fun k => nat_Read.f k ⟨l.toArray⟩) (lim (dval l 0), 0) := by
  obtain ⟨hd, hn, h1⟩ := h
  have L := read_l0 l hd hl l.length 0 0 (by omega) (by simpa using hv)
  rw [lim_zero, List.drop_zero] at L
  have tl : strings_Trim.f ⟨l.toArray⟩ ⟨#[48, 49, 50, 51, 52, 53, 54, 55, 56, 57]⟩ = some ⟨([] : List UInt8).toArray⟩ := by
    unfold strings_Trim.f
    rw [if_pos ⟨by rw [size_mk]; omega, by decide, by decide⟩]
    exact congrArg (fun z : List UInt8 => some (⟨z.toArray⟩ : ByteArray)) (trim_digits hd)
  have j : Ev (fun k => nat_Read.j0 k ⟨l.toArray⟩ false) (lim (dval l 0), 0) := by
    refine Ev.step (fun k => nat_Read.j0.eq_2 _ _ k) ?_
    simp only [Bool.false_eq_true, if_false]
    exact L
  have lp : 0 < l.length := List.length_pos_iff.2 hn
  have en : ((⟨([] : List UInt8).toArray⟩ : ByteArray).toList != ([] : List UInt8)) = false := by rw [toList_mk]; rfl
  unfold nat_Read.f
  rw [toList_mk, tl]
  simp only [if_neg hn, ob, en, if_pos (show (0 : Int) < (((⟨l.toArray⟩ : ByteArray).size : Nat) : Int) from n_lt lp)]
  by_cases c : bt ⟨l.toArray⟩ 0 = 48
  · have hs : ¬ ((((⟨l.toArray⟩ : ByteArray).size : Nat) : Int) > 1) := by
      rw [size_mk]
      rcases h1 with h1 | h1
      · omega
      · exfalso
        obtain ⟨b, t, e⟩ := List.exists_cons_of_ne_nil hn
        subst e
        have hb := bt_mk (b :: t) 0 lp
        rw [Int.ofNat_zero] at hb
        rw [hb] at c
        refine h1 b t rfl (UInt8.toNat_inj.1 ?_)
        have : ((b :: t)[0]).toNat = b.toNat := rfl
        rw [show (48 : UInt8).toNat = 48 from rfl]
        omega
    simp only [if_pos c, if_neg hs]
    exact j
  · simp only [if_neg c]
    exact j
end Go.Proofs.YtdgbeejhccogpaaDoor.F
