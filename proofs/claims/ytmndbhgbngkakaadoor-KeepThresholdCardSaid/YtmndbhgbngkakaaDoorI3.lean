/- slices.Delete: what it does to the model's memory. No condition but those that are written out. -/
import Derived.Test.YtmndbhgbngkakaaDoorI2
import Derived.Deep.RegionLaw
namespace Go.Proofs.YtmndbhgbngkakaaDoor.I
open Go Go.RowKit Go.Lib Go.Proofs.YtmndbhgbngkakaaDoor.E
set_option linter.all false

theorem run_clear_e {P : Program} (w : World) (t e ty : TypeId) (z : Value) (ht : P.underlying t = some (.slice e)) (hz : tzero P e = some z) (b o n c k : Nat) (hn : 0 < n) (hk : k = n * z.cells.size) (h1 : ∀ v ∈ zerosOf z.cells k, v.oneCell' = true)
    (hc : ∀ j, j < k → (w.cell? ⟨b, o + j, none⟩).isSome = true) (hf : ∀ j, j < k → w.frozen? ⟨b, o + j, none⟩ = false) :
    (Builtin.clear_ #[t] ty #[.slice (some ⟨b, o, none⟩) n c]).run P w = .ok (.tuple #[]) (w.setCells b o (zerosOf z.cells k)) := by
  subst hk
  obtain ⟨hzr, hzf⟩ := run_zero' hz w
  have hl : (zerosOf z.cells (n * z.cells.size)).length = n * z.cells.size := by simp [zerosOf, Builtin.zeroCells]
  have hst := run_storeCells_cells (P := P) b o (zerosOf z.cells (n * z.cells.size)) 0 w (by rw [hl]; simpa using hc) (by rw [hl]; simpa using hf) h1
  simp only [Nat.add_zero] at hst
  have e : (Builtin.zeroCells z.cells n).toList = zerosOf z.cells (n * z.cells.size) := rfl
  obtain ⟨m, rfl⟩ : ∃ m, n = m + 1 := ⟨n - 1, by omega⟩
  simp only [Builtin.clear_, List.getElem?_toArray, List.getElem?_cons_zero, Sem.run_bind, run_underlying ht, Result.andThen_ok, hzr, e, hst, Sem.run_pure]
set_option maxHeartbeats 8000000 in
set_option maxRecDepth 100000 in
theorem delete_cells (b off n c i j : Nat) (cs : List Value) (w : World) (hij : i < j) (hj : j ≤ n) (hnc : n ≤ c) (hn63 : n ≤ 9223372036854775807) (hcl : cs.length = n * 3)
    (hcs : ∀ (t : Nat) v, cs[t]? = some v → w.cell? ⟨b, off + t, none⟩ = some v) (hfz : ∀ t, t < n * 3 → w.frozen? ⟨b, off + t, none⟩ = false) (h1c : ∀ v ∈ cs, v.oneCell' = true) :
    Calls Tryd.prog 45 #[.slice (some ⟨b, off, none⟩) n c, .int .i64 i, .int .i64 j] w fun e w' =>
      e = .returned (.slice (some ⟨b, off, none⟩) (i + (n - j)) c) ∧ w' = (w.drew.setCells b (off + i * 3) (cs.drop (j * 3))).setCells b (off + (i + (n - j)) * 3) (zerosOf itz.cells ((n - (i + (n - j))) * 3)) := by
  have mixed : Tryd.prog.follows .mixedOrders = true := by kernel_rfl
  have t39 := Tryd.underlying22
  have t3 := Tryd.underlying3
  have t4 := Tryd.underlying4
  have u39 := run_underlying Tryd.underlying22; have u3 := run_underlying Tryd.underlying3; have u4 := run_underlying Tryd.underlying4
  have hz24 : tzero Tryd.prog 30 = some itz := by kernel_rfl
  obtain ⟨i0, hi0, hz1, hzb⟩ : ∃ i0, Tryd.prog.info? 30 = some i0 ∧ i0.size = 3 ∧ i0.bytes = 32 := ⟨_, rfl, rfl, rfl⟩
  have hne : ¬ ((i : Int) = (j : Int)) := by omega
  obtain ⟨news, hnews⟩ : ∃ news, news = cs.drop (j * 3) := ⟨_, rfl⟩
  have hlen : news.length = (n - j) * 3 := by rw [hnews, List.length_drop, hcl]; omega
  have hget : ∀ (t : Nat) u, news[t]? = some u → w.cell? ⟨b, off + (j * 3 + t), none⟩ = some u := fun t u hu => by
    rw [hnews, List.getElem?_drop] at hu
    exact hcs _ u hu
  obtain ⟨A, hA, hsrc⟩ : ∃ A : Addr, (if c = j then some (⟨b, off, none⟩ : Addr) else some ⟨b, off + j * 3, none⟩) = some A ∧ Hid (∀ (t : Nat) u, news[t]? = some u → w.drew.cell? (A.add t) = some u) := by
    by_cases h : c = j
    · refine ⟨⟨b, off, none⟩, by simp [h], fun t u hu => ?_⟩
      have h0 : news.length = 0 := by rw [hlen]; omega
      rw [List.length_eq_zero_iff.1 h0] at hu
      simp at hu
    · refine ⟨⟨b, off + j * 3, none⟩, by simp [h], fun t u hu => ?_⟩
      rw [Addr.add_lit, Nat.add_assoc]
      exact hget t u hu
  have s1 : Hid (news.length = (n - j) * 3) := hlen
  have s2 : Hid (∀ u ∈ news, u.oneCell' = true) := fun u hu => h1c u (by rw [hnews] at hu; exact List.mem_of_mem_drop hu)
  have hsome : ∀ t, t < n * 3 → (w.cell? ⟨b, off + t, none⟩).isSome = true := fun t ht => by
    rw [hcs t _ (List.getElem?_eq_getElem (by omega))]; rfl
  have s3 : Hid (∀ t, t < news.length → (w.drew.cell? ⟨b, off + i * 3 + t, none⟩).isSome = true ∧ w.drew.frozen? ⟨b, off + i * 3 + t, none⟩ = false) := fun t ht => by
    rw [hlen] at ht
    rw [Nat.add_assoc]
    exact ⟨hsome _ (by omega), hfz _ (by omega)⟩
  obtain ⟨W1, hW1⟩ : ∃ W1, W1 = w.drew.setCells b (off + i * 3) news := ⟨_, rfl⟩
  have hsp1 : ∀ k, k < n * 3 → (W1.cell? ⟨b, off + k, none⟩).isSome = true := fun k hk => by
    rw [hW1]
    exact isSome_setCells b _ _ _ (fun j hj => by rw [Nat.add_assoc]; exact hsome _ (by omega)) _ (hsome k hk)
  have hfz1 : ∀ k, k < n * 3 → W1.frozen? ⟨b, off + k, none⟩ = false := fun k hk => by
    rw [hW1, World.frozen?_setCells]; exact hfz k hk
  have hcl2 : ∀ ty cc, (Builtin.clear_ #[22] ty #[.slice (some ⟨b, off + (i + (n - j)) * 3, none⟩) (n - (i + (n - j))) cc]).run Tryd.prog W1 = .ok (.tuple #[]) (W1.setCells b (off + (i + (n - j)) * 3) (zerosOf itz.cells ((n - (i + (n - j))) * 3))) :=
    fun ty cc => run_clear_e W1 22 30 ty itz Tryd.underlying22 hz24 b _ _ cc _ (by omega) rfl (fun v hv => by
      have hm : ∀ v ∈ itz.cells.toList, v.oneCell' = true := by simp [itz, Value.cells, Value.oneCell']
      unfold zerosOf at hv
      simp at hv
      obtain ⟨k, _, rfl⟩ := hv
      show (itz.cells[k % 3]!).oneCell' = true
      rcases (by omega : k % 3 = 0 ∨ k % 3 = 1 ∨ k % 3 = 2) with h | h | h <;> rw [h] <;> rfl) (fun t ht => by rw [Nat.add_assoc]; exact hsp1 _ (by omega)) (fun t ht => by rw [Nat.add_assoc]; exact hfz1 _ (by omega))
  obtain ⟨Z, hZ⟩ : ∃ Z, Z = zerosOf itz.cells ((n - (i + (n - j))) * 3) := ⟨_, rfl⟩
  simp only [← hZ] at hcl2 ⊢
  clear hZ hz24
  have hW : Hid (W1 = w.drew.setCells b (off + i * 3) news) := hW1
  have hic : i ≤ c := by omega
  have hjc : j ≤ c := by omega
  have hnn : news = cs.drop (j * 3) := hnews
  have hN : Hid (news = cs.drop (j * 3)) := hnews
  clear hW1 hget hnews hnn hlen hsome hsp1 hfz1 hcs
  go_enter Tryd.func45, Tryd.ntmps45
  go_wp2_with fail
  go_region_law_o (refine step_append_room rfl (.tmp 22) (.tmp 25) 22 rfl 30 i0 3 t39 hi0 hz1 b off i c (by simp [Act.eval, Act.put]) A (n - j) (c - j) news (by simp [Act.eval, Act.put]) s1.out hsrc.out s2.out (by omega) s3.out ?_; rw [← hW.out])
  go_wp2
  go_ret
  exact ⟨rfl, by rw [hW.out, hN.out]⟩
end Go.Proofs.YtmndbhgbngkakaaDoor.I
