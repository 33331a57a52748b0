/- NatTexts: the text of any limbs, and the natural of any text, or that there is none, are what the document says; so are numbers of 64 and of 128 bits. No condition but the lists' lengths. -/
import Derived.Test.YtdgbeejhccogpaaDoorTT6
import Derived.Test.YtdgbeejhccogpaaDoorTA
namespace Go.Proofs.YtdgbeejhccogpaaDoor.Pure
set_option linter.unusedSimpArgs false
set_option linter.unusedVariables false
open Go.RowKit Go.Proofs.YtdgbeejhccogpaaDoor.T Go.Proofs.YtdgbeejhccogpaaDoorW.PrintWords Go.Proofs.YtdgbeejhccogpaaDoorW.PrintLast Go.Proofs.YtdgbeejhccogpaaDoorW.PrintMore Go.Proofs.YtdgbeejhccogpaaDoor.M Go.Proofs.YtdgbeejhccogpaaDoor.F

theorem said_len (l : List UInt8) : (said l).1.length ≤ 64 := by
  unfold said
  split
  · simp
  · unfold num
    split
    · rename_i h
      exact len_le.2 h
    · simp
theorem texts_j1 (a : List Int) (l w : List UInt8) (hi lo : Nat) (hl : l.length ≤ 800) (h1 : hi < 18446744073709551616) (h2 : lo < 18446744073709551616) (T : Ev (fun k => nat_Text.f k a) ⟨w.toArray⟩) :
    Ev (fun k => samphirelaw02_NatTexts.j1 k a ⟨l.toArray⟩ ⟨w.toArray⟩ (hi : Int) (lo : Int)) true := by
  have R1 := read_all l (by omega)
  have R2 := rread_all l (by omega)
  have sl := said_len l
  have S1 := same_ev (said l).1 (said l).1 (by omega)
  rw [decide_eq_true rfl] at S1
  have O1 := rof_ev lo h2
  have O2 := rof_ev hi h1
  have Of1 := of_ev lo h2
  obtain ⟨X1, X2⟩ := wide_ev hi lo h1 h2
  have F1 := from_ev hi lo h1 h2
  have l2 : (lim lo).length ≤ 2 := len_le.2 h2
  have l5 : (lim (lo + 18446744073709551616 * hi)).length ≤ 4 := len_le.2 (by omega)
  have S2 := same_ev (lim lo) (lim lo) (by omega)
  rw [decide_eq_true rfl] at S2
  have S3 := same_ev (lim (lo + 18446744073709551616 * hi)) (lim (lo + 18446744073709551616 * hi)) (by omega)
  rw [decide_eq_true rfl] at S3
  refine Ev.step (fun k => samphirelaw02_NatTexts.j1.eq_2 _ _ _ _ _ k) ?_
  refine Ev.bind R1 ?_
  refine Ev.bind R2 ?_
  refine Ev.bind O1 ?_
  refine Ev.bind O2 ?_
  refine Ev.bind X1 ?_
  refine Ev.bind X2 ?_
  refine Ev.bind T ?_
  simp only [if_true]
  refine Ev.bind S1 ?_
  simp only [if_true]
  refine Ev.bind Of1 ?_
  refine Ev.bind O1 ?_
  refine Ev.bind S2 ?_
  simp only [if_true]
  refine Ev.bind F1 ?_
  refine Ev.bind S3 ?_
  simp only [if_true]
  exact Ev.bind awake_ev (Ev.now _)
theorem texts_ev (a : List Int) (ha : W a) (l : List UInt8) (hi lo : Nat) (h1 : hi < 18446744073709551616) (h2 : lo < 18446744073709551616) :
    Ev (fun k => samphirelaw02_NatTexts.f k a ⟨l.toArray⟩ (hi : Int) (lo : Int)) true := by
  have aw : Ev (fun k => samphirelaw02_NatTexts.j0 k a ⟨l.toArray⟩ true (hi : Int) (lo : Int)) true := Ev.step (fun k => samphirelaw02_NatTexts.j0.eq_2 _ _ _ _ _ k) (by simp only [if_true]; exact Ev.bind awake_ev (Ev.now _))
  unfold samphirelaw02_NatTexts.f
  rw [show samphireref02_Small.f a = some (decide ((a.length : Int) ≤ 70)) from rfl]
  simp only [ob]
  by_cases c1 : (a.length : Int) ≤ 70
  · rw [decide_eq_true c1]
    simp only [if_true]
    by_cases c2 : (((⟨l.toArray⟩ : ByteArray).size : Nat) : Int) > 800
    · rw [decide_eq_true c2]
      exact aw
    · rw [decide_eq_false c2]
      rw [size_mk] at c2
      refine Ev.step (fun k => samphirelaw02_NatTexts.j0.eq_2 _ _ _ _ _ k) ?_
      rw [rright_eq a ha (by omega)]
      simp only [Bool.false_eq_true, if_false, ob]
      cases r : rightB a with
      | true =>
        obtain ⟨x, rfl, hx⟩ := right_nat ha r
        simp only [if_true]
        refine Ev.bind (rtext_ev x hx) ?_
        exact texts_j1 _ l (dec x) hi lo (by omega) h1 h2 (text_dec x hx)
      | false =>
        simp only [Bool.false_eq_true, if_false]
        refine texts_j1 a l [] hi lo (by omega) h1 h2 ?_
        unfold nat_Text.f
        rw [right_eq a (by omega), r]
        simp only [ob, Bool.false_eq_true, if_false]
        exact Ev.now _
  · rw [decide_eq_false c1]
    simp only [Bool.false_eq_true, if_false]
    exact aw
theorem u64_nat {x : Int} (h : (Lit.int .u64 x).wf = true) : ∃ n : Nat, x = n ∧ n < 18446744073709551616 := by
  simp [Lit.wf, IntKind.min, IntKind.max, IntKind.signed, IntKind.bits] at h
  exact ⟨x.toNat, by omega, by omega⟩
theorem NatTexts : ∀ (l0 : List Int) (a1 : ByteArray) (a2_0 : Int) (a2_1 : Int), l0.length ≤ maxLen → l0.length * 4 ≤ 140737488351232 → (∀ x ∈ l0, (Lit.int .u32 x).wf = true) → a1.size ≤ 140737488351232 → (Lit.int .u64 a2_0).wf = true → (Lit.int .u64 a2_1).wf = true → ∃ k, T.samphirelaw02_NatTexts.f k l0 a1 a2_0 a2_1 = some true := by
  intro l0 a1 a b _ _ hw _ ha hb
  obtain ⟨x, rfl, hx⟩ := u64_nat ha
  obtain ⟨y, rfl, hy⟩ := u64_nat hb
  obtain ⟨K, h⟩ := texts_ev l0 (wf_W hw) a1.data.toList x y hx hy
  exact ⟨K, h K (Nat.le_refl _)⟩
end Go.Proofs.YtdgbeejhccogpaaDoor.Pure
