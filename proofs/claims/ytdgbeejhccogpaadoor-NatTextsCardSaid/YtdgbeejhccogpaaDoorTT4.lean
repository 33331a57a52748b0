/- Texts: the document's writing, and that both write alike. No condition beyond the lists' lengths. -/
import Derived.Test.YtdgbeejhccogpaaDoorTT3
namespace Go.Proofs.YtdgbeejhccogpaaDoor.F
set_option linter.unusedSimpArgs false
set_option linter.unusedVariables false
open Go.RowKit Go.Proofs.YtdgbeejhccogpaaDoor.T Go.Proofs.YtdgbeejhccogpaaDoorW.PrintWords Go.Proofs.YtdgbeejhccogpaaDoorW.PrintLast Go.Proofs.YtdgbeejhccogpaaDoorW.PrintMore Go.Proofs.YtdgbeejhccogpaaDoor.M

def dec (x : Nat) : List UInt8 := if h : x / 10 = 0 then [UInt8.ofNat (48 + x % 10)] else dec (x / 10) ++ [UInt8.ofNat (48 + x % 10)]
termination_by x
decreasing_by omega
theorem good_dec (n : Nat) : ∀ l : List UInt8, l.length = n → Good10 l → l = dec (dval l 0) := by
  induction n with
  | zero => intro l h g; exact absurd (List.length_eq_zero_iff.1 h) g.2.1
  | succ n ih =>
    intro l h g
    obtain ⟨hd, hn, hh⟩ := g
    obtain ⟨t, b, rfl⟩ : ∃ t b, l = t ++ [b] := ⟨l.dropLast, l.getLast hn, (List.dropLast_concat_getLast hn).symm⟩
    have hb := hd b (by simp)
    have e : dval (t ++ [b]) 0 = 10 * dval t 0 + (b.toNat - 48) := by rw [dval_app]; rfl
    have e1 : dval (t ++ [b]) 0 / 10 = dval t 0 := by omega
    have e2 : dval (t ++ [b]) 0 % 10 = b.toNat - 48 := by omega
    have eb : UInt8.ofNat (48 + (b.toNat - 48)) = b := by rw [show 48 + (b.toNat - 48) = b.toNat from by omega]; simp
    rw [dec]
    rw [e1, e2, eb]
    rw [List.length_append, List.length_singleton] at h
    by_cases z : t = []
    · subst z
      rw [dif_pos (show dval [] 0 = 0 from rfl)]
      rfl
    · have hl : t.length ≠ 0 := fun c => z (List.length_eq_zero_iff.1 c)
      have hh' : ∀ b' t', t ++ [b] = b' :: t' → b' ≠ 48 := by
        rcases hh with c | c
        · rw [List.length_append, List.length_singleton] at c; omega
        · exact c
      obtain ⟨c, t', rfl⟩ := List.exists_cons_of_ne_nil z
      have hc : c ≠ 48 := hh' c (t' ++ [b]) rfl
      have hcd := hd c (by simp)
      have hc' : c.toNat ≠ 48 := fun e => hc (UInt8.toNat_inj.1 (by rw [show (48 : UInt8).toNat = 48 from rfl]; exact e))
      have low := dval_low c t' (by omega)
      have pos : 0 < 10 ^ t'.length := Nat.pos_of_ne_zero (by simp)
      rw [dif_neg (by omega)]
      have g' : Good10 (c :: t') := ⟨fun x hx => hd x (List.mem_append_left _ hx), by simp, Or.inr (fun b' t'' h' => by rw [← (List.cons.inj h').1]; exact hc)⟩
      rw [← ih (c :: t') (by omega) g']
theorem rtext_l1 (s : List UInt8) (h0 : List Int) (hD0 : D 65536 h0) (hl0 : h0.length < 1073741824) {R : ByteArray} (n : Nat)
    (hR : Ev (fun k => (samphireref02_Whole.f k h0).bind fun _ => some R) R ∨ True) :
    ∀ (h : List Int) (r : Int), n ≤ h.length → h.length = h0.length → D 65536 h → 0 ≤ r → r < 10 → h.take n = h0.take n → vb 65536 (h.drop n) * 10 + r = vb 65536 (h0.drop n) →
    (Ev (fun k => if (strOfNums [(IntKind.u64.wrap (48 + vb 65536 h0 % 10)) % 256]).size + (⟨s.toArray⟩ : ByteArray).size ≤ 9223372036854775807 then (if ((lim (vb 65536 h0 / 10).toNat).length : Int) = 0 then (some ((strOfNums [(IntKind.u64.wrap (48 + vb 65536 h0 % 10)) % 256]) ++ ⟨s.toArray⟩)) else (samphireref02_Text.l0 k (lim (vb 65536 h0 / 10).toNat) ((strOfNums [(IntKind.u64.wrap (48 + vb 65536 h0 % 10)) % 256]) ++ ⟨s.toArray⟩))) else none) R) →
    Ev (fun k => samphireref02_Text.l1 k ⟨s.toArray⟩ r h ((n : Int) - 1)) R := by
  induction n with
  | zero =>
    intro h r _ hl hD r0 r1 _ hv H
    rw [List.drop_zero, List.drop_zero] at hv
    have v0 := vb_nonneg (by decide) hD
    have e1 : vb 65536 h0 / 10 = vb 65536 h := by omega
    have e2 : vb 65536 h0 % 10 = r := by omega
    rw [e1, e2] at H
    refine Ev.step (fun k => samphireref02_Text.l1.eq_2 _ _ _ _ k) ?_
    simp only [if_neg (show ¬ (((0 : Nat) : Int) - 1 ≥ 0) by omega)]
    refine Ev.bind (whole_ev h hD (by omega)) ?_
    simp only [ob]
    exact H
  | succ n ih =>
    intro h r hn hl hD r0 r1 ht hv H
    have hx := D.getD (by decide) hD n
    have hi : n < h.length := by omega
    have hi0 : n < h0.length := by omega
    have eg : h.getD n 0 = h0.getD n 0 := by
      have a := M.getD_append_left (h.take (n + 1)) (h.drop (n + 1)) n (by rw [List.length_take]; omega)
      have b := M.getD_append_left (h0.take (n + 1)) (h0.drop (n + 1)) n (by rw [List.length_take]; omega)
      rw [List.take_append_drop] at a b
      rw [a, b, ht]
    have q0 : 0 ≤ (65536 * r + h.getD n 0) / 10 := by omega
    have q1 : (65536 * r + h.getD n 0) / 10 < 65536 := by omega
    have w1 : IntKind.u64.wrap (IntKind.u64.wrap (65536 * r) + h.getD n 0) = 65536 * r + h.getD n 0 := by rw [u64_in (n := 65536 * r) (by omega) (by omega), u64_in (by omega) (by omega)]
    have w2 : IntKind.u64.wrap (Int.tdiv (65536 * r + h.getD n 0) 10) = (65536 * r + h.getD n 0) / 10 := by rw [tdiv_pos (by omega), u64_in q0 (by omega)]
    have w3 : Int.tmod (65536 * r + h.getD n 0) 10 = (65536 * r + h.getD n 0) % 10 := tmod_pos (by omega)
    have w4 : wrap64 ((n : Int) - 1) = (n : Int) - 1 := wrap64_in (by omega) (by omega)
    have L := ih (h.set n ((65536 * r + h.getD n 0) / 10)) ((65536 * r + h.getD n 0) % 10) (by rw [List.length_set]; clear w1 w2 w3 w4; omega) (by rw [List.length_set]; exact hl)
      (by
        intro y hy
        rcases List.mem_or_eq_of_mem_set hy with g | g
        · exact hD y g
        · rw [g]; exact ⟨q0, q1⟩)
      (by clear w1 w2 w3 w4; omega) (by clear w1 w2 w3 w4; omega)
      (by
        rw [List.take_set_of_le (Nat.le_refl n)]
        have := congrArg (List.take n) ht
        rw [List.take_take, List.take_take, Nat.min_eq_left (by clear w1 w2 w3 w4; omega)] at this
        exact this)
      (by
        rw [drop_cons _ n (by rw [List.length_set]; exact hi), drop_cons h0 n hi0, M.getD_set_eq _ _ _ hi, List.drop_set_of_lt (show n < n + 1 by clear w1 w2 w3 w4; omega)]
        simp only [vb]
        rw [← hv, eg]
        clear w1 w2 w3 w4
        omega)
      H
    have p0 : ((n + 1 : Nat) : Int) - 1 = (n : Int) := by clear w1 w2 w3 w4; omega
    rw [p0]
    refine Ev.step (fun k => samphireref02_Text.l1.eq_2 _ _ _ _ k) ?_
    have c1 : (n : Int) ≥ 0 := n_nn n
    have c2 : (0 : Int) ≤ (n : Int) := n_nn n
    have c3 := n_lt hi
    simp only [if_pos c1, if_pos c2, if_pos c3, rd_nat, w1, w2, w3, w4, Int.toNat_natCast]
    exact L
end Go.Proofs.YtdgbeejhccogpaaDoor.F
