/- The evaluator's operations and the model's: slices, append and the like. No condition. -/
import Derived.Test.YtmbofpmjckjceaaDoorE4
namespace Go.Proofs.YtmbofpmjckjceaaDoor.E
open Go Go.RowKit
set_option linter.unusedVariables false
set_option linter.unusedSimpArgs false
section
variable {base : Nat} {μ : Mp} {H H' : Mem} {w : World} {P : Program}
theorem idx_eq {v v' : Value} {n : Nat} (h : idx v = some n) (r : VR μ v v') : v' = v := by
  cases r with
  | int k n => rfl
  | _ => simp [idx] at h
theorem idx_int {v : Value} {n : Nat} (h : idx v = some n) : ∃ k, v = .int k n := by
  cases v with
  | int k i =>
    simp only [idx] at h
    split at h
    · rename_i h0; cases h; exact ⟨k, by congr 1; omega⟩
    · cases h
  | _ => simp [idx] at h
theorem sliceBound_ok {v : Value} {n y : Nat} {code : BoundsCode} (h : idx v = some n) (hn : n ≤ y) : (Instr.sliceBound v y code).run P w = .ok n w := by
  obtain ⟨k, rfl⟩ := idx_int h
  simp [Instr.sliceBound, asIntOf, hn]
theorem bounds_some {len cap l hh : Nat} {lo hi mx : Option Value} {m : Option Nat} (h : bounds len cap lo hi mx = some (l, hh, m)) :
    (mx = none ∧ m = none ∨ ∃ v n, mx = some v ∧ idx v = some n ∧ m = some n) ∧ (hi = none ∧ mx = none ∧ hh = len ∨ ∃ v, hi = some v ∧ idx v = some hh) ∧
    (lo = none ∧ l = 0 ∨ ∃ v, lo = some v ∧ idx v = some l) ∧ l ≤ hh ∧ hh ≤ m.getD cap ∧ m.getD 0 ≤ cap := by
  unfold bounds at h
  split at h
  · cases h
  · rename_i m' hm
    split at h
    · cases h
    · rename_i h' hh'
      split at h
      · cases h
      · rename_i l' hl
        split at h
        · rename_i hc
          simp only [Option.some.injEq, Prod.mk.injEq] at h
          obtain ⟨rfl, rfl, rfl⟩ := h
          have hm1 : (mx = none ∧ m' = none ∨ ∃ v n, mx = some v ∧ idx v = some n ∧ m' = some n) := by
            cases mx with
            | none => simp at hm; exact .inl ⟨rfl, hm.symm⟩
            | some v =>
              cases hv : idx v with
              | none => simp [hv] at hm
              | some n => simp [hv] at hm; exact .inr ⟨v, n, rfl, hv, hm.symm⟩
          refine ⟨hm1, ?_, ?_, hc⟩
          · cases hi with
            | none =>
              rcases hm1 with ⟨a, b⟩ | ⟨v, n, a, b, c⟩
              · subst b; simp at hh'; exact .inl ⟨rfl, a, hh'.symm⟩
              · subst c; simp at hh'
            | some v => exact .inr ⟨v, rfl, hh'⟩
          · cases lo with
            | none => simp at hl; exact .inl ⟨rfl, hl.symm⟩
            | some v => exact .inr ⟨v, rfl, hl⟩
        · cases h
/-- The bounds, in the model. -/
theorem bounds_ok {isS : Bool} {len cap cap' l hh : Nat} {lo hi mx : Option Value} {m : Option Nat} (h : bounds len cap lo hi mx = some (l, hh, m)) (hc : cap ≤ cap') :
    (Instr.sliceBounds isS len cap' lo hi mx).run P w = .ok (l, hh, m.getD cap') w := by
  obtain ⟨h1, h2, h3, h4, h5, h6⟩ := bounds_some h
  have hlo : ∀ u, lo = some u → idx u = some l → ∀ c, (Instr.sliceBound u hh c).run P w = .ok l w := fun u _ hu c => sliceBound_ok hu h4
  rcases h1 with ⟨rfl, rfl⟩ | ⟨v, n, rfl, hv, rfl⟩
  · simp only [Option.getD_none] at h5 ⊢
    have hhi : ∀ u, hi = some u → idx u = some hh → ∀ c, (Instr.sliceBound u cap' c).run P w = .ok hh w := fun u _ hu c => sliceBound_ok hu (by omega)
    rcases h2 with ⟨rfl, _, rfl⟩ | ⟨v2, rfl, hv2⟩ <;> rcases h3 with ⟨rfl, rfl⟩ | ⟨u, rfl, hu⟩
    · simp [Instr.sliceBounds]
    · simp [Instr.sliceBounds, hlo u rfl hu]
    · simp [Instr.sliceBounds, hhi v2 rfl hv2]
    · simp [Instr.sliceBounds, hhi v2 rfl hv2, hlo u rfl hu]
  · simp only [Option.getD_some] at h5 h6 ⊢
    have hmx : ∀ c, (Instr.sliceBound v cap' c).run P w = .ok n w := fun c => sliceBound_ok hv (by omega)
    have hhi : ∀ u, hi = some u → idx u = some hh → ∀ c, (Instr.sliceBound u n c).run P w = .ok hh w := fun u _ hu c => sliceBound_ok hu (by omega)
    rcases h2 with ⟨_, hc, _⟩ | ⟨v2, rfl, hv2⟩
    · cases hc
    · rcases h3 with ⟨rfl, rfl⟩ | ⟨u, rfl, hu⟩
      · simp [Instr.sliceBounds, hmx, hhi v2 rfl hv2]
      · simp [Instr.sliceBounds, hmx, hhi v2 rfl hv2, hlo u rfl hu]
/-- Options of values. -/
def OVR (μ : Mp) : Option Value → Option Value → Prop
  | none, none => True
  | some v, some v' => VR μ v v'
  | _, _ => False
theorem OVR.eq {o o' : Option Value} (h : OVR μ o o') (hi : o = none ∨ ∃ v n, o = some v ∧ idx v = some n) : o' = o := by
  cases o with
  | none => cases o' with | none => rfl | some v => exact h.elim
  | some v =>
    rcases hi with hi | ⟨v', n, hv, hn⟩
    · cases hi
    · cases hv
      cases o' with
      | none => exact h.elim
      | some u => rw [idx_eq hn h]
theorem bounds_eq {len cap l hh : Nat} {lo hi mx lo' hi' mx' : Option Value} {m : Option Nat} (h : bounds len cap lo hi mx = some (l, hh, m)) (h1 : OVR μ lo lo') (h2 : OVR μ hi hi') (h3 : OVR μ mx mx') : lo' = lo ∧ hi' = hi ∧ mx' = mx := by
  obtain ⟨a, b, c, _⟩ := bounds_some h
  refine ⟨h1.eq ?_, h2.eq ?_, h3.eq ?_⟩
  · rcases c with ⟨c, _⟩ | ⟨v, c, d⟩
    · exact .inl c
    · exact .inr ⟨v, _, c, d⟩
  · rcases b with ⟨c, _⟩ | ⟨v, c, d⟩
    · exact .inl c
    · exact .inr ⟨v, _, c, d⟩
  · rcases a with ⟨c, _⟩ | ⟨v, n, c, d, _⟩
    · exact .inl c
    · exact .inr ⟨v, n, c, d⟩
theorem room_lt : maxRoom < OPEN := by decide
theorem VR.slice_open {a : Addr} {n : Nat} {y : Value} (h : VR μ (.slice (some a) n OPEN) y) : a.spot = none ∧ ∃ m, μ a.block = some m ∧ ((∃ c, y = .slice (some (m.addr a.off)) n c ∧ m.at_.off + a.off + c * m.e = m.lim ∧ n ≤ c) ∨ (∃ A, y = .slice (some A) 0 0 ∧ n = 0 ∧ m.at_.off + a.off = m.lim)) := by
  generalize hc : OPEN = c at h
  cases h with
  | sliceE hs hc' hm => rw [← hc] at hc'; exact absurd hc' (Nat.lt_irrefl _)
  | sliceO hs hm hl hn => exact ⟨hs, _, hm, .inl ⟨_, rfl, hl, hn⟩⟩
  | sliceE0 hs hm => exact absurd hc (by decide)
  | sliceO0 hs hm hl => exact ⟨hs, _, hm, .inr ⟨_, rfl, rfl, hl⟩⟩
theorem VR.slice_exact {a : Addr} {n c : Nat} {y : Value} (hc : c ≠ OPEN) (h : VR μ (.slice (some a) n c) y) : a.spot = none ∧ c < OPEN ∧ ∃ m, μ a.block = some m ∧ (y = .slice (some (m.addr a.off)) n c ∨ (∃ A, y = .slice (some A) 0 0 ∧ n = 0 ∧ c = 0)) := by
  cases h with
  | sliceE hs hc' hm => exact ⟨hs, hc', _, hm, .inl rfl⟩
  | sliceO hs hm hl hn => exact absurd rfl hc
  | sliceE0 hs hm => exact ⟨hs, by decide, _, hm, .inr ⟨_, rfl, rfl, rfl⟩⟩
  | sliceO0 hs hm hl => exact absurd rfl hc
theorem VR.slice_nil {n c : Nat} {y : Value} (h : VR μ (.slice none n c) y) : y = .slice none n c := by cases h; rfl
theorem VR.ptr_some {a : Addr} {y : Value} (h : VR μ (.pointer (some a)) y) : a.spot = none ∧ ∃ m, μ a.block = some m ∧ y = .pointer (some (m.addr a.off)) := by cases h with | ptr hs h => exact ⟨hs, _, h, rfl⟩
theorem VR.str {s : ByteArray} {y : Value} (h : VR μ (.string s) y) : y = .string s := by cases h; rfl
theorem VR.int' {k : IntKind} {n : Int} {y : Value} (h : VR μ (.int k n) y) : y = .int k n := by cases h; rfl
theorem VR.bool' {b : Bool} {y : Value} (h : VR μ (.bool b) y) : y = .bool b := by cases h; rfl
theorem VR.fn {fn : Fn} {a b : Array Value} {y : Value} (h : VR μ (.func fn a b) y) : ∃ a' b', y = .func fn a' b' ∧ VRa μ a a' ∧ VRa μ b b' := by cases h with | func _ hn h hn' h' => exact ⟨_, _, rfl, .mk hn h, .mk hn' h'⟩
theorem sliceV_ok (R : Rl base μ H w) {t : TypeId} {x x' v : Value} {lo hi mx lo' hi' mx' : Option Value} (hx : VR μ x x') (h1 : OVR μ lo lo') (h2 : OVR μ hi hi') (h3 : OVR μ mx mx') (h : sliceV P H t x lo hi mx = some v) :
    ∃ v', (Instr.sliceAt t x' lo' hi' mx').run P w = .ok v' w ∧ VR μ v v' := by
  unfold sliceV at h
  split at h
  · rename_i hu
    cases hx
    split at h
    · cases h
    · rename_i s _ hmx
      split at h
      · rename_i l hh m hb
        cases h
        obtain ⟨rfl, rfl, _⟩ := bounds_eq (mx' := none) hb h1 h2 trivial
        have hmx' : mx' = none := by
          cases mx with
          | none => cases mx' with | none => rfl | some _ => exact h3.elim
          | some _ => simp at hmx
        subst hmx'
        have hr := bounds_ok (P := P) (w := w) (isS := false) hb (Nat.le_refl _)
        exact ⟨_, by simp [Instr.sliceAt, run_underlying hu, Instr.slice, hr], .string _⟩
      · cases h
  · rename_i e bs len cap hu
    split at h
    · cases h
    · rename_i z hz
      split at h
      · rename_i hc
        subst hc
        split at h
        · cases h
        · rename_i a
          obtain ⟨hs, m, hm, hy⟩ := hx.slice_open
          split at h
          · cases h
          · rename_i b hb
            obtain ⟨ho, ha⟩ := live_some hb
            have r := R.row a.block m b hm ho
            split at h
            · rename_i hc
              obtain ⟨hbe, hz0, hoff⟩ := hc
              have hroom := r.room
              have hme : m.e = z := by rw [r.e, hbe]
              have hdiv : (b.cells.length - a.off) / z * z ≤ b.cells.length - a.off := Nat.div_mul_le_self _ _
              rcases hy with ⟨c, rfl, hl, hn⟩ | ⟨A, rfl, rfl, hl⟩
              · have hcap : (b.cells.length - a.off) / z ≤ c := by
                  rw [hme] at hl
                  refine Nat.le_of_mul_le_mul_right (c := z) ?_ hz0
                  omega
                split at h
                · rename_i l hh hbd
                  cases h
                  obtain ⟨rfl, rfl, rfl⟩ := bounds_eq hbd h1 h2 h3
                  have hr := bounds_ok (P := P) (w := w) (isS := true) hbd hcap
                  obtain ⟨_, _, _, q1, q2, _⟩ := bounds_some hbd
                  simp only [Option.getD_none] at q2 hr
                  refine ⟨.slice (if c = l then some (m.addr a.off) else some ((m.addr a.off).add (l * z))) (hh - l) (c - l), by simp [Instr.sliceAt, run_underlying hu, Instr.slice, hr, run_size' hz], ?_⟩
                  rw [addr_add]
                  split
                  · rename_i e1
                    have : hh - l = 0 := by omega
                    rw [this, show c - l = 0 by omega]
                    exact .sliceO0 (a := ⟨a.block, a.off + l * z, none⟩) rfl hm (by rw [hme, e1] at hl; simp; omega)
                  · refine .sliceO (a := ⟨a.block, a.off + l * z, none⟩) rfl hm ?_ (by omega)
                    rw [hme] at hl ⊢
                    rw [Nat.sub_mul]
                    have : l * z ≤ c * z := Nat.mul_le_mul_right _ (by omega)
                    simp; omega
                · rename_i l hh mm hbd
                  split at h
                  · rename_i hmr
                    cases h
                    obtain ⟨rfl, rfl, rfl⟩ := bounds_eq hbd h1 h2 h3
                    have hr := bounds_ok (P := P) (w := w) (isS := true) hbd hcap
                    simp only [Option.getD_some] at hr
                    refine ⟨.slice (if mm = l then some (m.addr a.off) else some ((m.addr a.off).add (l * z))) (hh - l) (mm - l), by simp [Instr.sliceAt, run_underlying hu, Instr.slice, hr, run_size' hz], ?_⟩
                    have hlt : mm - l < OPEN := by have := room_lt; omega
                    rw [addr_add]
                    split
                    · exact .sliceE hs hlt hm
                    · exact .sliceE (a := ⟨a.block, a.off + l * z, none⟩) rfl hlt hm
                  · cases h
                · cases h
              · have hq : b.cells.length - a.off = 0 := by omega
                rw [hq, Nat.zero_div] at h
                split at h
                · rename_i l hh hbd
                  cases h
                  obtain ⟨rfl, rfl, rfl⟩ := bounds_eq hbd h1 h2 h3
                  have hr := bounds_ok (P := P) (w := w) (isS := true) hbd (Nat.le_refl _)
                  obtain ⟨_, _, _, q1, q2, _⟩ := bounds_some hbd
                  simp only [Option.getD_none] at q2 hr
                  obtain rfl : hh = 0 := by omega
                  obtain rfl : l = 0 := by omega
                  refine ⟨.slice (some A) 0 0, by simp [Instr.sliceAt, run_underlying hu, Instr.slice, hr, run_size' hz], ?_⟩
                  exact .sliceO0 (a := ⟨a.block, a.off + 0 * z, none⟩) rfl hm (by simp; omega)
                · rename_i l hh mm hbd
                  split at h
                  · cases h
                    obtain ⟨rfl, rfl, rfl⟩ := bounds_eq hbd h1 h2 h3
                    have hr := bounds_ok (P := P) (w := w) (isS := true) hbd (Nat.le_refl _)
                    obtain ⟨_, _, _, q1, q2, q3⟩ := bounds_some hbd
                    simp only [Option.getD_some] at q2 q3 hr
                    obtain rfl : mm = 0 := by omega
                    obtain rfl : hh = 0 := by omega
                    obtain rfl : l = 0 := by omega
                    refine ⟨.slice (some A) 0 0, by simp [Instr.sliceAt, run_underlying hu, Instr.slice, hr, run_size' hz], ?_⟩
                    simp only [if_true]
                    exact .sliceE0 hs hm
                  · cases h
                · cases h
            · cases h
      · rename_i hc
        split at h
        · rename_i l hh m hbd
          cases h
          obtain ⟨rfl, rfl, rfl⟩ := bounds_eq hbd h1 h2 h3
          obtain ⟨_, _, _, q1, q2, q3⟩ := bounds_some hbd
          have hr := bounds_ok (P := P) (w := w) (isS := true) hbd (Nat.le_refl _)
          cases bs with
          | none =>
            rw [hx.slice_nil]
            exact ⟨_, by simp [Instr.sliceAt, run_underlying hu, Instr.slice, hr, run_size' hz]; rfl, by split <;> exact .snil _ _⟩
          | some a =>
            obtain ⟨hs, hlt, mA, hm, hy⟩ := hx.slice_exact hc
            rcases hy with rfl | ⟨A, rfl, rfl, rfl⟩
            · refine ⟨.slice (if m.getD cap = l then some (mA.addr a.off) else some ((mA.addr a.off).add (l * z))) (hh - l) (m.getD cap - l), by simp [Instr.sliceAt, run_underlying hu, Instr.slice, hr, run_size' hz], ?_⟩
              have hlt' : m.getD cap - l < OPEN := by
                cases m with
                | none => simp; omega
                | some mm => simp at q3 ⊢; omega
              rw [addr_add]
              split
              · exact .sliceE hs hlt' hm
              · exact .sliceE (a := ⟨a.block, a.off + l * z, none⟩) rfl hlt' hm
            · have hm0 : m.getD 0 = 0 := by cases m with | none => rfl | some mm => simp at q3 ⊢; omega
              rw [hm0] at q2 hr ⊢
              obtain rfl : hh = 0 := by omega
              obtain rfl : l = 0 := by omega
              refine ⟨.slice (some A) 0 0, by simp [Instr.sliceAt, run_underlying hu, Instr.slice, hr, run_size' hz], ?_⟩
              simp only [if_true]
              exact .sliceE0 hs hm
        · cases h
  · rename_i n e a hu
    obtain ⟨hs, m, hm, rfl⟩ := hx.ptr_some
    split at h
    · rename_i z l hh mm hz hbd
      split at h
      · rename_i hn
        cases h
        obtain ⟨rfl, rfl, rfl⟩ := bounds_eq hbd h1 h2 h3
        obtain ⟨_, _, _, q1, q2, q3⟩ := bounds_some hbd
        have hr := bounds_ok (P := P) (w := w) (isS := false) hbd (Nat.le_refl _)
        refine ⟨.slice (some (if mm.getD n = l then m.addr a.off else (m.addr a.off).add (l * z))) (hh - l) (mm.getD n - l), by simp [Instr.sliceAt, run_underlying hu, Instr.sureAddr, hr, run_size' hz], ?_⟩
        have hlt' : mm.getD n - l < OPEN := by
          have := room_lt
          cases mm with
          | none => simp; omega
          | some m' => simp at q3 ⊢; omega
        rw [addr_add]
        split
        · exact .sliceE hs hlt' hm
        · exact .sliceE (a := ⟨a.block, a.off + l * z, none⟩) rfl hlt' hm
      · cases h
    · cases h
  · cases h
end
end Go.Proofs.YtmbofpmjckjceaaDoor.E
