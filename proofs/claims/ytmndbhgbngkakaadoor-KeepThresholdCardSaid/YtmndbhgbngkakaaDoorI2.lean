/- slices.Insert at the end, and where there is no room: what it does to the model's memory. No condition but those that are written out. -/
import Derived.Test.YtmndbhgbngkakaaDoorI1
import Derived.Lib.AppendZerosOnto
import Derived.Deep.AppendSrc
namespace Go.Proofs.YtmndbhgbngkakaaDoor.I
open Go Go.RowKit Go.Lib Go.Proofs.YtmndbhgbngkakaaDoor.E
set_option linter.all false

/-- An item of nothing. -/
def itz : Value := .agg #[.string ByteArray.empty, .int .u64 0, .int .u64 0]
set_option maxHeartbeats 8000000 in
set_option maxRecDepth 100000 in
/-- AT THE END, THERE IS ROOM: in place. -/
theorem insert_end_room (b off n c vb voff m vc : Nat) (vs : List Value) (w : World) (hm : 0 < m) (hroom : n + m ≤ c) (hn63 : n + m ≤ 9223372036854775807)
    (hvl : vs.length = m * 3) (hsp : ∀ j, j < m * 3 → (w.cell? ⟨b, off + n * 3 + j, none⟩).isSome = true) (hfz : ∀ j, j < m * 3 → w.frozen? ⟨b, off + n * 3 + j, none⟩ = false)
    (hvs : ∀ (j : Nat) v, vs[j]? = some v → w.cell? ⟨vb, voff + j, none⟩ = some v) (h1v : ∀ v ∈ vs, v.oneCell' = true) :
    Calls Tryd.prog 47 #[.slice (some ⟨b, off, none⟩) n c, .int .i64 n, .slice (some ⟨vb, voff, none⟩) m vc] w fun e w' =>
      e = .returned (.slice (some ⟨b, off, none⟩) (n + m) c) ∧ w' = w.setCells b (off + n * 3) vs := by
  have mixed : Tryd.prog.follows .mixedOrders = true := by kernel_rfl
  have t39 := Tryd.underlying22
  have t3 := Tryd.underlying3
  have t4 := Tryd.underlying4
  have u39 := run_underlying Tryd.underlying22; have u3 := run_underlying Tryd.underlying3; have u4 := run_underlying Tryd.underlying4
  have hs24 : tsz Tryd.prog 30 = some 3 := by kernel_rfl
  obtain ⟨i0, hi0, hzs, hzb, hz0⟩ : ∃ i0, Tryd.prog.info? 30 = some i0 ∧ i0.size = 3 ∧ i0.bytes = 32 ∧ i0.zero = some itz := ⟨_, rfl, rfl, rfl, rfl⟩
  have hz1 : ¬ ((m : Int) = 0) := by omega
  have hsrc : Src Tryd.prog i0.size 22 (.slice (some ⟨vb, voff, none⟩) m vc) m vs w := by
    rw [hzs]
    exact Src.ofSlice w Tryd.underlying22 ⟨vb, voff, none⟩ m vc vs (by omega) (fun j u hj => by rw [Addr.add_lit]; exact hvs j u hj) h1v
  have hrun : ∀ ty, (Builtin.append_ #[22, 22] ty #[.slice (some ⟨b, off, none⟩) n c, .slice (some ⟨vb, voff, none⟩) m vc]).run Tryd.prog w = .ok (.slice (some ⟨b, off, none⟩) (n + m) c) (w.setCells b (off + n * 3) vs) := fun ty => by
    have := run_append_room_src (w := w) 22 22 ty 30 i0 Tryd.underlying22 hi0 b off n c _ m vs hsrc hroom (by rw [hvl, hzs]; exact hsp) (by rw [hvl, hzs]; exact hfz)
    rwa [hzs] at this
  go_enter Tryd.func47, Tryd.ntmps47
  go_wp2_with (at_builtin; refine Lib.wpList_append_run _ rfl _ _ _ _ rfl _ _ rfl rfl _ _ (hrun _) ?_)
  all_goals (go_ret; exact ⟨rfl, rfl⟩)
set_option maxHeartbeats 8000000 in
set_option maxRecDepth 100000 in
/-- AT THE END, NO ROOM (the nil slice among these): A NEW ROW. -/
theorem insert_end_grow (base : Option Addr) (n c vb voff m vc : Nat) (cs vs : List Value) (w : World) (hm : 0 < m) (hnc : n ≤ c) (hroom : c < n + m) (hbig : (n + m) * 32 ≤ 140737488355328)
    (hcl : cs.length = n * 3) (hvl : vs.length = m * 3) (hnil : base = none → n = 0)
    (hcs : ∀ a, base = some a → ∀ (j : Nat) v, cs[j]? = some v → w.cell? (a.add j) = some v)
    (hvs : ∀ (j : Nat) v, vs[j]? = some v → w.cell? ⟨vb, voff + j, none⟩ = some v) (h1v : ∀ v ∈ vs, v.oneCell' = true) :
    Calls Tryd.prog 47 #[.slice base n c, .int .i64 n, .slice (some ⟨vb, voff, none⟩) m vc] w fun e w' =>
      e = .returned (.slice (some ⟨w.heap.size, 0, none⟩) (n + m) (grownCap w (n + m) c 30)) ∧
      w' = w.drew.alloc (.cells ((cs ++ vs).toArray ++ Builtin.zeroCells itz.cells (grownCap w (n + m) c 30 - (n + m))) 30) := by
  have mixed : Tryd.prog.follows .mixedOrders = true := by kernel_rfl
  have t39 := Tryd.underlying22
  have t3 := Tryd.underlying3
  have t4 := Tryd.underlying4
  have u39 := run_underlying Tryd.underlying22; have u3 := run_underlying Tryd.underlying3; have u4 := run_underlying Tryd.underlying4
  have hs24 : tsz Tryd.prog 30 = some 3 := by kernel_rfl
  obtain ⟨i0, hi0, hzs, hzb, hz0⟩ : ∃ i0, Tryd.prog.info? 30 = some i0 ∧ i0.size = 3 ∧ i0.bytes = 32 ∧ i0.zero = some itz := ⟨_, rfl, rfl, rfl, rfl⟩
  have hz1 : ¬ ((m : Int) = 0) := by omega
  have hsrc : Src Tryd.prog i0.size 22 (.slice (some ⟨vb, voff, none⟩) m vc) m vs w := by
    rw [hzs]
    exact Src.ofSlice w Tryd.underlying22 ⟨vb, voff, none⟩ m vc vs (by omega) (fun j u hj => by rw [Addr.add_lit]; exact hvs j u hj) h1v
  have hold : (Builtin.firstCells i0.size n (.slice base n c)).run Tryd.prog w.drew = .ok cs.toArray w.drew := by
    rw [hzs]
    cases base with
    | none =>
      have h0 := hnil rfl
      subst h0
      rw [List.length_eq_zero_iff.1 (by omega : cs.length = 0)]
      exact run_firstCells_none w.drew 3 0 0 c
    | some a => exact run_firstCells_some w.drew 3 n a n c cs (by omega) (fun j v hj => hcs a rfl j v hj)
  have hrun : ∀ ty, (Builtin.append_ #[22, 22] ty #[.slice base n c, .slice (some ⟨vb, voff, none⟩) m vc]).run Tryd.prog w = _ := fun ty =>
    run_append_grow_src w 22 22 ty 30 i0 _ Tryd.underlying22 hi0 hz0 base n c cs hold _ m vs hsrc hroom (by omega) (by rw [hzb]; exact growslice_fits hroom hbig)
  go_enter Tryd.func47, Tryd.ntmps47
  cases base with
  | none =>
    have h0 := hnil rfl
    subst h0
    go_wp2_with (at_builtin; refine Lib.wpList_append_run _ rfl _ _ _ _ rfl _ _ rfl rfl _ _ (hrun _) ?_)
    all_goals (go_ret; exact ⟨rfl, rfl⟩)
  | some a =>
    obtain ⟨ab, ao, asp⟩ := a
    go_wp2_with (at_builtin; refine Lib.wpList_append_run _ rfl _ _ _ _ rfl _ _ rfl rfl _ _ (hrun _) ?_)
    all_goals (go_ret; exact ⟨rfl, rfl⟩)
set_option maxHeartbeats 8000000 in
set_option maxRecDepth 100000 in
/-- i < len(s), NO ROOM: A NEW ROW. -/
theorem insert_grow (b off n c i vb voff m vc : Nat) (cs vs : List Value) (w : World) (hi : i < n) (hm : 0 < m) (hnc : n ≤ c) (hroom : c < n + m) (hbig : (n + m) * 32 ≤ 140737488355328)
    (hcl : cs.length = n * 3) (hvl : vs.length = m * 3)
    (hcs : ∀ (j : Nat) v, cs[j]? = some v → w.cell? ⟨b, off + j, none⟩ = some v)
    (hvs : ∀ (j : Nat) v, vs[j]? = some v → w.cell? ⟨vb, voff + j, none⟩ = some v) (h1c : ∀ v ∈ cs, v.oneCell' = true) (h1v : ∀ v ∈ vs, v.oneCell' = true) :
    Calls Tryd.prog 47 #[.slice (some ⟨b, off, none⟩) n c, .int .i64 i, .slice (some ⟨vb, voff, none⟩) m vc] w fun e w' =>
      e = .returned (.slice (some ⟨w.heap.size, 0, none⟩) (n + m) (grownCap w (n + m) c 30)) ∧
      w' = (((w.alloc (.cells ((cs.take (i * 3)).toArray ++ Builtin.zeroCells itz.cells (n + m - i) ++ Builtin.zeroCells itz.cells (grownCap w (n + m) c 30 - (n + m))) 30)).drew.setCells w.heap.size (i * 3) vs).drew).setCells w.heap.size ((i + m) * 3) (cs.drop (i * 3)) := by
  have mixed : Tryd.prog.follows .mixedOrders = true := by kernel_rfl
  have t39 := Tryd.underlying22
  have t3 := Tryd.underlying3
  have t4 := Tryd.underlying4
  have u39 := run_underlying Tryd.underlying22; have u3 := run_underlying Tryd.underlying3; have u4 := run_underlying Tryd.underlying4
  have hs24 : tsz Tryd.prog 30 = some 3 := by kernel_rfl
  obtain ⟨i0, hi0, hzs, hzb, hz0⟩ : ∃ i0, Tryd.prog.info? 30 = some i0 ∧ i0.size = 3 ∧ i0.bytes = 32 ∧ i0.zero = some itz := ⟨_, rfl, rfl, rfl, rfl⟩
  have hz1 : ¬ ((m : Int) = 0) := by omega
  have hz2 : ¬ ((i : Int) = (n : Int)) := by omega
  have hz3 : (c : Int) < (n : Int) + (m : Int) := by omega
  have hbw : b < w.heap.size := block_lt_of_cell (hcs 0 _ (List.getElem?_eq_getElem (by omega)))
  have hvw : vb < w.heap.size := block_lt_of_cell (hvs 0 _ (List.getElem?_eq_getElem (by omega)))
  have hkk : (n : Int) + (m : Int) - (i : Int) = ((n + m - i : Nat) : Int) := by omega
  have hik : i + (n + m - i) = n + m := by omega
  have hold : (Builtin.firstCells i0.size i (.slice (some ⟨b, off, none⟩) i c)).run Tryd.prog w.drew = .ok (cs.take (i * 3)).toArray w.drew := by
    rw [hzs]
    exact run_firstCells_some w.drew 3 i ⟨b, off, none⟩ i c (cs.take (i * 3)) (by rw [List.length_take]; omega) (fun j v hj => by
      rw [Addr.add_lit]
      rw [List.getElem?_take] at hj
      split at hj
      · exact hcs j v hj
      · cases hj)
  have hrz : ∀ ty, (Builtin.append_ #[22, 3] ty #[.slice (some ⟨b, off, none⟩) i c, .int .i64 ((n : Int) + (m : Int) - (i : Int))]).run Tryd.prog w =
      .ok (.slice (some ⟨w.heap.size, 0, none⟩) (n + m) (grownCap w (n + m) c 30)) (w.drew.alloc (.cells ((cs.take (i * 3)).toArray ++ Builtin.zeroCells itz.cells (n + m - i) ++ Builtin.zeroCells itz.cells (grownCap w (n + m) c 30 - (n + m))) 30)) := fun ty => by
    have h := Lib.run_append_grow_zeros w 22 3 ty 30 i0 _ .i64 .i64 Tryd.underlying22 Tryd.underlying3 hi0 hz0 (some ⟨b, off, none⟩) i c (cs.take (i * 3)) hold (n + m - i) (by omega) (by rw [hzs]; omega) (by omega) (by omega) (by rw [hzb]; omega) (by rw [hzb, hik]; exact growslice_fits hroom hbig)
    rw [hik] at h
    rw [hkk]
    exact h
  obtain ⟨G, hG⟩ : ∃ G, G = grownCap w (n + m) c 30 := ⟨_, rfl⟩
  obtain ⟨ROW, hROW⟩ : ∃ ROW : Array Value, ROW = (cs.take (i * 3)).toArray ++ Builtin.zeroCells itz.cells (n + m - i) ++ Builtin.zeroCells itz.cells (G - (n + m)) := ⟨_, rfl⟩
  rw [← hG] at hrz ⊢
  rw [← hROW] at hrz ⊢
  have hRl : (n + m) * 3 ≤ ROW.size := by
    rw [hROW]
    simp [Builtin.zeroCells, Value.cells, itz]
    omega
  obtain ⟨W1, hW1⟩ : ∃ W1, W1 = w.drew.alloc (.cells ROW 30) := ⟨_, rfl⟩
  rw [← hW1] at hrz
  have hN : ∀ j, j < (n + m) * 3 → (W1.cell? ⟨w.heap.size, j, none⟩).isSome = true := fun j hj => by
    rw [hW1, World.cell?_alloc_at (w := w.drew) ROW _ w.heap.size j rfl, Array.getElem?_eq_getElem (by omega)]; rfl
  have hNf : ∀ j, W1.frozen? ⟨w.heap.size, j, none⟩ = false := fun j => by rw [hW1]; exact World.frozen?_alloc_at (w := w.drew) ROW _ w.heap.size j rfl
  have hOb : ∀ j v, w.cell? ⟨b, j, none⟩ = some v → W1.cell? ⟨b, j, none⟩ = some v := fun j v h => by rw [hW1, World.cell?_alloc_past (w := w.drew) _ b j hbw]; exact h
  have hOv : ∀ j v, w.cell? ⟨vb, j, none⟩ = some v → W1.cell? ⟨vb, j, none⟩ = some v := fun j v h => by rw [hW1, World.cell?_alloc_past (w := w.drew) _ vb j hvw]; exact h
  have hcpA : ∀ (W : World), (∀ x, W.cell? x = W1.cell? x) → (∀ x, W.frozen? x = W1.frozen? x) → ∀ ty dc, (Builtin.copy_ #[22, 22] ty #[.slice (some ⟨w.heap.size, i * 3, none⟩) (n + m - i) dc, .slice (some ⟨vb, voff, none⟩) m vc]).run Tryd.prog W = .ok (goInt (Nat.min m (n + m - i))) (W.setCells w.heap.size (i * 3) vs) := fun W hWc hWf ty dc =>
    run_copy_e W _ _ ty 30 3 w.heap.size (i * 3) (n + m - i) dc ⟨vb, voff, none⟩ m vc vs Tryd.underlying22 hs24 (by rw [hvl]; simp only [Nat.min_def]; split <;> omega)
      (fun j v hj => by rw [Addr.add_lit, hWc]; exact hOv _ v (hvs j v hj))
      (fun j hj => by rw [hWc]; exact hN _ (by omega)) (fun j hj => by rw [hWf]; exact hNf _) h1v
  have hGn : n + m ≤ G := by rw [hG]; exact grownCap_ge w _ _ _
  have hG63 : G ≤ 9223372036854775807 := by
    have := grownCap_le_maxLen w (n + m) c 30 (by unfold maxLen; omega)
    rw [← hG] at this
    unfold maxLen at this
    omega
  have hGi : ¬ (G = i) := by omega
  have hGim : ¬ (G = i + m) := by omega
  have hci : ¬ (c = i) := by omega
  have hbN : b ≠ w.heap.size := by omega
  have hdl : (cs.drop (i * 3)).length = (n - i) * 3 := by rw [List.length_drop, hcl]; omega
  have hcpB : ∀ (W : World), (∀ x, W.cell? x = (W1.setCells w.heap.size (i * 3) vs).cell? x) → (∀ x, W.frozen? x = (W1.setCells w.heap.size (i * 3) vs).frozen? x) → ∀ ty dc sc, (Builtin.copy_ #[22, 22] ty #[.slice (some ⟨w.heap.size, (i + m) * 3, none⟩) (n + m - (i + m)) dc, .slice (some ⟨b, off + i * 3, none⟩) (n - i) sc]).run Tryd.prog W = .ok (goInt (Nat.min (n - i) (n + m - (i + m)))) (W.setCells w.heap.size ((i + m) * 3) (cs.drop (i * 3))) := fun W hWc hWf ty dc sc =>
    run_copy_e W _ _ ty 30 3 w.heap.size ((i + m) * 3) (n + m - (i + m)) dc ⟨b, off + i * 3, none⟩ (n - i) sc (cs.drop (i * 3)) Tryd.underlying22 hs24 (by rw [hdl]; simp only [Nat.min_def]; split <;> omega)
      (fun j v hj => by
        rw [Addr.add_lit, hWc, World.cell?_setCells_out _ _ _ _ _ (fun h _ => absurd h hbN), Nat.add_assoc]
        exact hOb _ v (hcs (i * 3 + j) v (by rwa [List.getElem?_drop] at hj)))
      (fun j hj => by rw [hWc]; exact isSome_setCells _ _ _ _ (fun t ht => hN _ (by omega)) _ (hN _ (by omega)))
      (fun j hj => by rw [hWf, World.frozen?_setCells]; exact hNf _) (fun v hv => h1c v (List.mem_of_mem_drop hv))
  subst hW1
  have hE1 : ∀ x, ((w.alloc (.cells ROW 30)).drew).cell? x = (w.drew.alloc (.cells ROW 30)).cell? x := fun x => rfl
  have hE2 : ∀ x, ((w.alloc (.cells ROW 30)).drew).frozen? x = (w.drew.alloc (.cells ROW 30)).frozen? x := fun x => rfl
  have hF1 : ∀ x, (((w.alloc (.cells ROW 30)).drew.setCells w.heap.size (i * 3) vs).drew).cell? x = ((w.drew.alloc (.cells ROW 30)).setCells w.heap.size (i * 3) vs).cell? x := fun x => rfl
  have hF2 : ∀ x, (((w.alloc (.cells ROW 30)).drew.setCells w.heap.size (i * 3) vs).drew).frozen? x = ((w.drew.alloc (.cells ROW 30)).setCells w.heap.size (i * 3) vs).frozen? x := fun x => rfl
  have hw1 : IntKind.i64.wrap ((i : Int) + (m : Int)) = (i : Int) + (m : Int) := by rw [IntKind.wrap_i64]; omega
  have hb1 : (0 : Int) ≤ (i : Int) + (m : Int) := by omega
  have hin : i ≤ n := by omega
  have htn : ((i : Int) + (m : Int)).toNat = i + m := by omega
  have hb3 : (i : Int) ≤ (n : Int) := by omega
  clear hkk hik hold hROW hG hRl hi0 hz0 hzs hzb
  go_enter Tryd.func47, Tryd.ntmps47
  go_wp2_with (first
    | (at_builtin; refine Lib.wpList_append_run _ rfl _ _ _ _ rfl _ _ rfl rfl _ _ (hrz _) ?_)
    | (at_builtin; refine wpList_copy_run _ rfl _ _ 22 22 rfl _ _ rfl rfl (hcpA _ hE1 hE2 _ _) ?_)
    | (at_builtin; refine wpList_copy_run _ rfl _ _ 22 22 rfl _ _ rfl rfl (hcpB _ (fun _ => rfl) (fun _ => rfl) _ _ _) ?_))
  go_region_law_o (refine step_copy_run rfl _ _ 22 22 rfl (.slice (some ⟨w.heap.size, (i + m) * 3, none⟩) (n + m - (i + m)) (G - (i + m))) (.slice (some ⟨b, off + i * 3, none⟩) (n - i) (c - i)) (by simp [Act.eval, Act.put]) (by simp [Act.eval, Act.put]) (hcpB _ hF1 hF2 3 (G - (i + m)) (c - i)) ?_)
  go_wp2
  go_ret
  exact ⟨rfl, rfl⟩
end Go.Proofs.YtmndbhgbngkakaaDoor.I
