/- Digits of sixteen bits, plainly. No condition. -/
import Derived.Test.YtmndbhgbngkakaaDoorKAll
namespace Go.Proofs.YtmndbhgbngkakaaDoor.Z
open Go Go.Proofs.YtmndbhgbngkakaaDoor.K Go.Proofs.YtmndbhgbngkakaaDoor.F Go.Proofs.YtmndbhgbngkakaaDoor.M Go.Proofs.YtmndbhgbngkakaaDoor.R
set_option linter.all false

theorem vb_set (B : Int) : ∀ (l : List Int) (j : Nat) (v : Int), j < l.length → vb B (l.set j v) = vb B l + (v - l.getD j 0) * B ^ j
  | [], j, v, h => by simp at h
  | x :: t, 0, v, h => by simp [vb]; omega
  | x :: t, j + 1, v, h => by
    simp only [List.set_cons_succ, vb, List.getD_cons_succ]
    rw [vb_set B t j v (by simpa using h), Int.pow_succ]
    grind
theorem vb_take_succ (B : Int) : ∀ (l : List Int) (k : Nat), k < l.length → vb B (l.take (k + 1)) = vb B (l.take k) + l.getD k 0 * B ^ k
  | [], k, h => by simp at h
  | x :: t, 0, h => by simp [vb]
  | x :: t, k + 1, h => by
    simp only [List.take_succ_cons, vb, List.getD_cons_succ]
    rw [vb_take_succ B t k (by simpa using h), Int.pow_succ]
    grind
/-- Sixteen bits each. -/
def digs8 (h l : Int) : List Int := [Int.tmod (l / 1) 65536, Int.tmod (l / 65536) 65536, Int.tmod (l / 4294967296) 65536, Int.tmod (l / 281474976710656) 65536, Int.tmod (h / 1) 65536, Int.tmod (h / 65536) 65536, Int.tmod (h / 4294967296) 65536, Int.tmod (h / 281474976710656) 65536]
def u64b (a : Int) : Prop := 0 ≤ a ∧ a < 18446744073709551616
theorem tm (a : Int) (h : 0 ≤ a) : Int.tmod a 65536 = a % 65536 := Int.tmod_eq_emod_of_nonneg h
theorem digs_eq {h l : Int} (hh : u64b h) (hl : u64b l) : digs8 h l = [l % 65536, l / 65536 % 65536, l / 4294967296 % 65536, l / 281474976710656 % 65536, h % 65536, h / 65536 % 65536, h / 4294967296 % 65536, h / 281474976710656 % 65536] := by
  unfold digs8
  obtain ⟨h0, h1⟩ := hh
  obtain ⟨l0, l1⟩ := hl
  rw [tm, tm, tm, tm, tm, tm, tm, tm, Int.ediv_one, Int.ediv_one] <;> omega
theorem digs_D {h l : Int} (hh : u64b h) (hl : u64b l) : D 65536 (digs8 h l) := by
  rw [digs_eq hh hl]
  intro x hx
  simp only [List.mem_cons, List.not_mem_nil, or_false] at hx
  rcases hx with rfl | rfl | rfl | rfl | rfl | rfl | rfl | rfl <;> omega
theorem digs_vb {h l : Int} (hh : u64b h) (hl : u64b l) : vb 65536 (digs8 h l) = h * 18446744073709551616 + l := by
  rw [digs_eq hh hl]
  obtain ⟨h0, h1⟩ := hh
  obtain ⟨l0, l1⟩ := hl
  simp only [vb]
  omega
/-- A digit behind a number. -/
def dstep (a d : Int) : Int := IntKind.u64.wrap (IntKind.u64.wrap (a * 65536) + d)
def num4 (ds : List Int) (o : Nat) : Int := dstep (dstep (dstep (dstep 0 (ds.getD (o + 3) 0)) (ds.getD (o + 2) 0)) (ds.getD (o + 1) 0)) (ds.getD o 0)
theorem dstep_in {a d : Int} (h : 0 ≤ a) (h1 : a < 281474976710656) (d0 : 0 ≤ d) (d1 : d < 65536) : dstep a d = a * 65536 + d := by
  unfold dstep
  rw [u64_in (n := a * 65536) (by omega) (by omega), u64_in (by omega) (by omega)]
theorem num4_eq {l : List Int} (hl : D 65536 l) (o : Nat) : num4 l o = l.getD o 0 + l.getD (o + 1) 0 * 65536 + l.getD (o + 2) 0 * 4294967296 + l.getD (o + 3) 0 * 281474976710656 := by
  have d0 := D.getD (by decide) hl o
  have d1 := D.getD (by decide) hl (o + 1)
  have d2 := D.getD (by decide) hl (o + 2)
  have d3 := D.getD (by decide) hl (o + 3)
  unfold num4
  generalize l.getD o 0 = a at *
  generalize l.getD (o + 1) 0 = b at *
  generalize l.getD (o + 2) 0 = c at *
  generalize l.getD (o + 3) 0 = d at *
  rw [dstep_in (a := 0) (by omega) (by omega) d3.1 d3.2, dstep_in (by omega) (by omega) d2.1 d2.2, dstep_in (by omega) (by omega) d1.1 d1.2, dstep_in (by omega) (by omega) d0.1 d0.2]
  omega
theorem len8 {l : List Int} (h : l.length = 8) : l = [l.getD 0 0, l.getD 1 0, l.getD 2 0, l.getD 3 0, l.getD 4 0, l.getD 5 0, l.getD 6 0, l.getD 7 0] := by
  match l, h with
  | [a, b, c, d, e, f, g, i], _ => rfl
theorem num4_vb {l : List Int} (hl : D 65536 l) (h8 : l.length = 8) : u64b (num4 l 0) ∧ u64b (num4 l 4) ∧ num4 l 4 * 18446744073709551616 + num4 l 0 = vb 65536 l := by
  rw [num4_eq hl, num4_eq hl]
  have d0 := D.getD (by decide) hl 0
  have d1 := D.getD (by decide) hl 1
  have d2 := D.getD (by decide) hl 2
  have d3 := D.getD (by decide) hl 3
  have d4 := D.getD (by decide) hl 4
  have d5 := D.getD (by decide) hl 5
  have d6 := D.getD (by decide) hl 6
  have d7 := D.getD (by decide) hl 7
  rw [len8 h8]
  simp only [vb, List.getD_cons_zero, List.getD_cons_succ, Nat.zero_add]
  unfold u64b
  generalize l.getD 0 0 = a at *
  generalize l.getD 1 0 = b at *
  generalize l.getD 2 0 = c at *
  generalize l.getD 3 0 = d at *
  generalize l.getD 4 0 = e at *
  generalize l.getD 5 0 = f at *
  generalize l.getD 6 0 = g at *
  generalize l.getD 7 0 = i at *
  omega
/-- Which one is less. -/
def ordI (a b : Int) : Int := if a < b then -1 else if b < a then 1 else 0
def cmpD (x y : List Int) : Nat → Int
  | 0 => 0
  | n + 1 => if x.getD n 0 < y.getD n 0 then -1 else if y.getD n 0 < x.getD n 0 then 1 else cmpD x y n
theorem cmpD_succ (x y : List Int) (n : Nat) : cmpD x y (n + 1) = if x.getD n 0 < y.getD n 0 then -1 else if y.getD n 0 < x.getD n 0 then 1 else cmpD x y n := rfl
theorem vb_step_lt {x y : List Int} (hx : D 65536 x) (hy : D 65536 y) {n : Nat} (h1 : n < x.length) (h2 : n < y.length) (h : x.getD n 0 < y.getD n 0) : vb 65536 (x.take (n + 1)) < vb 65536 (y.take (n + 1)) := by
  rw [vb_take_succ _ x n h1, vb_take_succ _ y n h2]
  have a := vb_lt (by decide) (hx.take n)
  have b := vb_nonneg (by decide) (hy.take n)
  rw [List.length_take, Nat.min_eq_left (Nat.le_of_lt h1)] at a
  have p : (0 : Int) ≤ 65536 ^ n := Int.le_of_lt (Int.pow_pos (by decide))
  have := Int.mul_le_mul_of_nonneg_right (show x.getD n 0 + 1 ≤ y.getD n 0 by omega) p
  rw [Int.add_mul, Int.one_mul] at this
  omega
theorem cmpD_vb {x y : List Int} (hx : D 65536 x) (hy : D 65536 y) : ∀ n, n ≤ x.length → n ≤ y.length → cmpD x y n = ordI (vb 65536 (x.take n)) (vb 65536 (y.take n))
  | 0, _, _ => by simp [cmpD, ordI]
  | n + 1, h1, h2 => by
    rw [cmpD_succ, cmpD_vb hx hy n (by omega) (by omega)]
    by_cases c1 : x.getD n 0 < y.getD n 0
    · have := vb_step_lt hx hy h1 h2 c1
      rw [if_pos c1]; unfold ordI; rw [if_pos this]
    · rw [if_neg c1]
      by_cases c2 : y.getD n 0 < x.getD n 0
      · have := vb_step_lt hy hx h2 h1 c2
        rw [if_pos c2]; unfold ordI; rw [if_neg (by omega), if_pos this]
      · rw [if_neg c2]
        have e : x.getD n 0 = y.getD n 0 := by omega
        rw [vb_take_succ _ x n h1, vb_take_succ _ y n h2, e]
        unfold ordI
        generalize y.getD n 0 * 65536 ^ n = z
        repeat' split
        all_goals omega
theorem digs_cmp {h l h' l' : Int} (hh : u64b h) (hl : u64b l) (hh' : u64b h') (hl' : u64b l') : cmpD (digs8 h l) (digs8 h' l') 8 = ordI (h * 18446744073709551616 + l) (h' * 18446744073709551616 + l') := by
  rw [cmpD_vb (digs_D hh hl) (digs_D hh' hl') 8 (Nat.le_refl 8) (Nat.le_refl 8)]
  have e : ∀ a b : Int, (digs8 a b).take 8 = digs8 a b := fun a b => rfl
  rw [e, e, digs_vb hh hl, digs_vb hh' hl']
/-! ### Products -/
/-- What holds of the digits that have been laid, before the i-th row of the product. -/
structure MulI (X Y O : List Int) (i : Nat) : Prop where
  len : O.length = 16
  d : D 65536 O
  v : vb 65536 O = vb 65536 (X.take i) * vb 65536 Y
  z : ∀ j, i + 8 ≤ j → O.getD j 0 = 0
/-- ... within it. -/
structure MulJ (X Y O : List Int) (i k : Nat) (c : Int) : Prop where
  len : O.length = 16
  d : D 65536 O
  v : vb 65536 O + c * 65536 ^ (i + k) = vb 65536 (X.take i) * vb 65536 Y + X.getD i 0 * vb 65536 (Y.take k) * 65536 ^ i
  z : ∀ j, i + 8 ≤ j → O.getD j 0 = 0
  c0 : 0 ≤ c
  c1 : c < 65536
theorem MulI.first (X Y : List Int) : MulI X Y (List.replicate 16 0) 0 := ⟨rfl, fun x hx => by rw [List.eq_of_mem_replicate hx]; decide, by simp [vb, List.replicate], fun j _ => by rw [List.getD_eq_getElem?_getD, List.getElem?_replicate]; split <;> rfl⟩
theorem MulI.row {X Y O : List Int} {i : Nat} (h : MulI X Y O i) : MulJ X Y O i 0 0 := ⟨h.len, h.d, by rw [h.v]; simp [vb], h.z, by decide, by decide⟩
theorem MulJ.n {X Y O : List Int} {i k : Nat} {c : Int} (h : MulJ X Y O i k c) (hX : D 65536 X) (hY : D 65536 Y) : 0 ≤ O.getD (i + k) 0 + X.getD i 0 * Y.getD k 0 + c ∧ O.getD (i + k) 0 + X.getD i 0 * Y.getD k 0 + c < 4294967296 := by
  have a := D.getD (by decide) h.d (i + k)
  have b := D.getD (by decide) hX i
  have d := D.getD (by decide) hY k
  have p0 := Int.mul_nonneg b.1 d.1
  have p1 : X.getD i 0 * Y.getD k 0 ≤ 65535 * 65535 := Int.mul_le_mul (by omega) (by omega) d.1 (by decide)
  have := h.c0
  have := h.c1
  omega
theorem MulJ.next {X Y O : List Int} {i k : Nat} {c : Int} (h : MulJ X Y O i k c) (hX : D 65536 X) (hY : D 65536 Y) (hi : i < 8) (hk : k < 8) (hk' : k < Y.length) {n : Int} (hn : n = O.getD (i + k) 0 + X.getD i 0 * Y.getD k 0 + c) :
    MulJ X Y (O.set (i + k) (n % 65536)) i (k + 1) (n / 65536) := by
  obtain ⟨n0, n1⟩ := h.n hX hY
  rw [← hn] at n0 n1
  refine ⟨by simp [h.len], D.set h.d _ (by omega) (by omega), ?_, fun j hj => by rw [getD_set_ne _ _ _ _ (by omega)]; exact h.z j hj, by omega, by omega⟩
  rw [vb_set _ _ _ _ (by rw [h.len]; omega), vb_take_succ _ _ _ hk', show i + (k + 1) = (i + k) + 1 by omega, Int.pow_succ]
  have hv := h.v
  have hd : n % 65536 = n - n / 65536 * 65536 := by omega
  rw [hd, hn] at *
  generalize (O.getD (i + k) 0 + X.getD i 0 * Y.getD k 0 + c) / 65536 = m
  generalize vb 65536 (X.take i) * vb 65536 Y = V at *
  have hp : (65536 : Int) ^ (i + k) = 65536 ^ k * 65536 ^ i := by rw [Int.pow_add, Int.mul_comm]
  rw [hp] at hv ⊢
  generalize (65536 : Int) ^ k = P at *
  generalize (65536 : Int) ^ i = Q at *
  grind
theorem MulJ.last {X Y O : List Int} {i : Nat} {c : Int} (h : MulJ X Y O i 8 c) (hi : i < 8) (hX : i < X.length) (hY : Y.length = 8) : MulI X Y (O.set (i + 8) c) (i + 1) := by
  refine ⟨by simp [h.len], D.set h.d _ h.c0 h.c1, ?_, fun j hj => by rw [getD_set_ne _ _ _ _ (by omega)]; exact h.z j (by omega)⟩
  have hv := h.v
  rw [vb_set _ _ _ _ (by rw [h.len]; omega), h.z (i + 8) (Nat.le_refl _), vb_take_succ _ _ _ hX, Int.sub_zero, hv, ← hY, List.take_length]
  grind
/-- The product of two numbers of 128 bits, if it is one. -/
def mhi (p : Int) : Int := if p < 340282366920938463463374607431768211456 then p / 18446744073709551616 else 0
def mlo (p : Int) : Int := if p < 340282366920938463463374607431768211456 then p % 18446744073709551616 else 0
theorem MulI.low {X Y O : List Int} (h : MulI X Y O 8) (hX : X.length = 8) : vb 65536 O = vb 65536 X * vb 65536 Y := by rw [h.v, ← hX, List.take_length]
theorem top_zero {O : List Int} (hd : D 65536 O) (h16 : O.length = 16) (hz : ∀ j, j < 8 → O.getD (8 + j) 0 = 0) : vb 65536 (O.take 8) = vb 65536 O ∧ vb 65536 O < 340282366920938463463374607431768211456 := by
  have e : O = O.take 8 ++ O.drop 8 := (List.take_append_drop 8 O).symm
  have z : vb 65536 (O.drop 8) = 0 := by
    have : O.drop 8 = [0, 0, 0, 0, 0, 0, 0, 0] := by
      have l8 : (O.drop 8).length = 8 := by rw [List.length_drop, h16]
      rw [len8 l8]
      have g : ∀ j, j < 8 → (O.drop 8).getD j 0 = 0 := fun j hj => by
        rw [List.getD_eq_getElem?_getD, List.getElem?_drop, ← List.getD_eq_getElem?_getD]; exact hz j hj
      rw [g 0 (by decide), g 1 (by decide), g 2 (by decide), g 3 (by decide), g 4 (by decide), g 5 (by decide), g 6 (by decide), g 7 (by decide)]
    rw [this]; decide
  have v : vb 65536 O = vb 65536 (O.take 8) := by
    conv => lhs; rw [e]
    rw [vb_append, z]; omega
  refine ⟨v.symm, ?_⟩
  rw [v]
  have := vb_lt (by decide) (hd.take 8)
  rw [List.length_take, h16] at this
  exact this
theorem top_pos {O : List Int} (hd : D 65536 O) (h16 : O.length = 16) {j : Nat} (hj : j < 8) (h : 0 < O.getD (8 + j) 0) : 340282366920938463463374607431768211456 ≤ vb 65536 O := by
  have e : O = O.take (8 + j) ++ O.drop (8 + j) := (List.take_append_drop _ O).symm
  have c : 8 + j < O.length := by omega
  have d : O.drop (8 + j) = O.getD (8 + j) 0 :: O.drop (8 + j + 1) := by
    rw [List.drop_eq_getElem_cons c, List.getD_eq_getElem?_getD, List.getElem?_eq_getElem c]; rfl
  have p1 := vb_nonneg (by decide) (hd.take (8 + j))
  have p2 := vb_nonneg (by decide) (hd.drop (8 + j + 1))
  have v : 1 ≤ vb 65536 (O.drop (8 + j)) := by rw [d]; simp only [vb]; omega
  have l : (O.take (8 + j)).length = 8 + j := by rw [List.length_take, h16]; omega
  rw [e, vb_append, l]
  have pw : (340282366920938463463374607431768211456 : Int) ≤ 65536 ^ (8 + j) := by
    rw [Int.pow_add]
    have : (1 : Int) ≤ 65536 ^ j := Int.pow_pos (by decide)
    have := Int.mul_le_mul_of_nonneg_left this (show (0 : Int) ≤ 65536 ^ 8 by decide)
    have e8 : (65536 : Int) ^ 8 = 340282366920938463463374607431768211456 := by decide
    omega
  have := Int.mul_le_mul pw v (by decide) (by omega)
  omega
end Go.Proofs.YtmndbhgbngkakaaDoor.Z
