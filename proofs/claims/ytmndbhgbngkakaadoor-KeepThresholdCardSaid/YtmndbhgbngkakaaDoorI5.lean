/- slices.Insert and slices.Delete at items: what is where behind them. No condition but those that are written out. -/
import Derived.Test.YtmndbhgbngkakaaDoorI4
namespace Go.Proofs.YtmndbhgbngkakaaDoor.I
open Go Go.RowKit Go.Lib Go.Proofs.YtmndbhgbngkakaaDoor.E
set_option linter.all false

theorem ins_get {cs xs : List Value} {p j : Nat} {v : Value} (hp : p ≤ cs.length) (h : (cs.take p ++ xs ++ cs.drop p)[j]? = some v) : (j < p ∧ cs[j]? = some v) ∨ (p ≤ j ∧ j < p + xs.length ∧ xs[j - p]? = some v) ∨ (p + xs.length ≤ j ∧ cs[j - xs.length]? = some v) := by
  have hl : (cs.take p).length = p := by rw [List.length_take]; omega
  rw [List.append_assoc] at h
  rcases Nat.lt_or_ge j p with h1 | h1
  · rw [List.getElem?_append_left (by omega), List.getElem?_take, if_pos h1] at h
    exact .inl ⟨h1, h⟩
  · rw [List.getElem?_append_right (by omega), hl] at h
    rcases Nat.lt_or_ge (j - p) xs.length with h2 | h2
    · rw [List.getElem?_append_left h2] at h
      exact .inr (.inl ⟨h1, by omega, h⟩)
    · rw [List.getElem?_append_right h2, List.getElem?_drop] at h
      exact .inr (.inr ⟨by omega, by rw [← h]; congr 1; omega⟩)
theorem arr_get {w : World} {b k : Nat} {c : Array Value} {ty : TypeId} (h : w.heap[b]? = some (.cells c ty (0, 0))) : w.cell? ⟨b, k, none⟩ = c[k]? := by simp [World.cell?, h]
theorem arr_fz {w : World} {b k : Nat} {c : Array Value} {ty : TypeId} (h : w.heap[b]? = some (.cells c ty (0, 0))) : w.frozen? ⟨b, k, none⟩ = false := by simp [World.frozen?, h]
theorem arr_shape {w : World} {b : Nat} {c : Array Value} {ty : TypeId} (h : w.heap[b]? = some (.cells c ty (0, 0))) : w.shape? b = some (ty, c.size) := by simp [World.shape?, h]
theorem zc_size (z : Array Value) (k : Nat) : (Builtin.zeroCells z k).size = k * z.size := by simp [Builtin.zeroCells]
/-- What a call has done to the world: what was there is as it was; the new elements lie in a new block. -/
structure EffN (w w' : World) (mn : MA) (new : List Value) : Prop where
  oth : ∀ k, k < w.heap.size → w'.heap[k]? = w.heap[k]?
  size : w.heap.size ≤ w'.heap.size
  os : w'.os = w.os
  tape : w'.tape = w.tape
  out : w'.output = w.output
  at_ : w.heap.size ≤ mn.at_.block
  spot : mn.at_.spot = none
  row : ∃ (cn : Array Value) (tn : TypeId), w'.heap[mn.at_.block]? = some (.cells cn tn (0, 0)) ∧ cn.size = mn.lim ∧ mn.at_.off + new.length ≤ mn.lim ∧ ∀ (j : Nat) v, new[j]? = some v → cn[mn.at_.off + j]? = some v
theorem EffN.eff {w w' : World} {mn : MA} {new : List Value} (h : EffN w w' mn new) (B : Nat) : Eff w w' B mn new :=
  ⟨fun k hk _ => h.oth k hk, h.size, h.os, h.tape, h.out, fun c0 ty hB => ⟨c0, (h.oth B (Array.getElem?_eq_some_iff.1 hB).1).trans hB, rfl⟩, .inr h.at_, h.spot, h.row⟩
section
variable {base : Nat} {μ : Mp} {H : Mem} {w w' : World}
theorem EffN.stp (R : Rl base μ H w) {mn : MA} {new : List Value} (h : EffN w w' mn new) (hf : ∀ v, v ∈ new → flat depth v = true) : Stp base μ H w (upd μ H.n mn) (H.new new mn.e) w' := by
  obtain ⟨cn, tn, y1, y2, y3, y4⟩ := h.row
  have hx := R.ext_upd mn
  have hget : ∀ i, (H.new new mn.e).obs.get i = if H.n = i then some (.blk ⟨new, mn.e, H.n, 0, false⟩) else H.obs.get i := fun i => Tr.get_set _ _ _ _
  have hnb : mn.at_.block < w'.heap.size := (Array.getElem?_eq_some_iff.1 y1).1
  refine ⟨⟨R.wf.new new mn.e, Nat.le_trans R.bd h.size, fun i m g => ?_, fun i m b g ho => ?_, fun i m es c g ho => ?_, fun i j mi mj hi hj hb => ?_⟩, hx, fun i m g h0 => ?_, Nat.le_succ _, fun i hi => ?_, fun i hi _ => ?_, fun f _ _ => rfl, Nat.le_refl _, fun B hB _ => h.oth B hB, h.os, h.tape, h.out, h.size⟩
  · by_cases hi : i = H.n
    · subst hi; exact ⟨_, (hget _).trans (if_pos rfl)⟩
    · rw [upd_ne μ _ hi] at g
      obtain ⟨o, ho⟩ := R.has i m g
      exact ⟨o, by rw [hget, if_neg (Ne.symm hi)]; exact ho⟩
  · by_cases hi : i = H.n
    · subst hi
      rw [upd_same] at g; cases g
      rw [hget, if_pos rfl] at ho; cases ho
      refine ⟨h.spot, rfl, y3, fun g => by simp at g, fun _ => ⟨Nat.le_trans R.bd h.at_, y3, cn, tn, y1, y2⟩, fun _ j v hj => ⟨v, ?_, VR.of_flat _ depth (hf v (List.mem_of_getElem? hj))⟩⟩
      simp only [MA.addr, World.cell?, y1]
      simpa using y4 j v hj
    · rw [upd_ne μ _ hi] at g
      rw [hget, if_neg (Ne.symm hi)] at ho
      exact (R.row i m b g ho).keep hx (fun h => h) (h.oth _ (R.blk_lt g))
  · by_cases hi : i = H.n
    · subst hi; rw [hget, if_pos rfl] at ho; cases ho
    · rw [upd_ne μ _ hi] at g
      rw [hget, if_neg (Ne.symm hi)] at ho
      exact (R.map i m es c g ho).keep hx (h.oth _ (R.blk_lt g))
  · rw [owner_new, owner_new]
    have hat := h.at_
    by_cases h1 : i = H.n
    · by_cases h2 : j = H.n
      · rw [h1, h2]
      · rw [h1, upd_same] at hi; cases hi
        rw [upd_ne μ _ h2] at hj
        have := R.blk_lt hj
        omega
    · by_cases h2 : j = H.n
      · rw [h2, upd_same] at hj; cases hj
        rw [upd_ne μ _ h1] at hi
        have := R.blk_lt hi
        omega
      · rw [if_neg (Ne.symm h1), if_neg (Ne.symm h2)]
        rw [upd_ne μ _ h1] at hi
        rw [upd_ne μ _ h2] at hj
        exact R.apart i j mi mj hi hj hb
  · by_cases hi : i = H.n
    · subst hi; rw [upd_same] at g; cases g; exact ⟨Nat.le_refl _, .inl h.at_⟩
    · rw [upd_ne μ _ hi, h0] at g; cases g
  · rw [owner_new, if_neg (by omega)]
  · rw [hget, if_neg (by omega)]
end
theorem insert_eff_g {w : World} {b off n c i vb voff vc : Nat} {cs xs : List Value} (hlt : b < w.heap.size) (hroom : c < n + 1) (hnc : n ≤ c) (hi : i ≤ n) (hcl : cs.length = n * 3)
    (hcs' : ∀ (j : Nat) v, cs[j]? = some v → w.cell? ⟨b, off + j, none⟩ = some v) (hne : vb ≠ b) (hxl : xs.length = 3) (hxs' : ∀ (j : Nat) v, xs[j]? = some v → w.cell? ⟨vb, voff + j, none⟩ = some v)
    (h1c : ∀ v ∈ cs, v.oneCell' = true) (h1x : ∀ v ∈ xs, v.oneCell' = true) (hbig : (n + 1) * 32 ≤ 140737488355328) :
    Calls Tryd.prog 47 #[.slice (some ⟨b, off, none⟩) n c, .int .i64 i, .slice (some ⟨vb, voff, none⟩) 1 vc] w fun e w' =>
      ∃ (mn : MA) (cap : Nat), e = .returned (.slice (some mn.at_) (n + 1) cap) ∧ mn.e = 3 ∧ mn.at_.off + cap * 3 = mn.lim ∧ n + 1 ≤ cap ∧ EffN w w' mn (cs.take (i * 3) ++ xs ++ cs.drop (i * 3)) := by
  have hil : i * 3 ≤ cs.length := by omega
  have hnl : (cs.take (i * 3) ++ xs ++ cs.drop (i * 3)).length = (n + 1) * 3 := by
    simp only [List.length_append, List.length_take, List.length_drop]; omega
  obtain ⟨tv, kv, hsv, hkv⟩ : ∃ tv kv, w.shape? vb = some (tv, kv) ∧ kv ≠ 0 := by
    have h0 := hxs' 0 _ (List.getElem?_eq_getElem (by omega))
    unfold World.cell? at h0
    split at h0
    · rename_i cv tv fr hb
      split at h0
      · cases h0
      · exact ⟨tv, cv.size, by simp only [World.shape?] ; rw [hb], by have := (Array.getElem?_eq_some_iff.1 h0).1; omega⟩
    · cases h0
  have hG := grownCap_ge w (n + 1) c 30
  rcases Nat.eq_or_lt_of_le hi with rfl | hin
  · refine (insert_end_grow (some ⟨b, off, none⟩) i c vb voff 1 vc cs xs w (by omega) hnc hroom hbig hcl (by omega) (fun h => by cases h) (fun a ha j v hj => by cases ha; rw [Addr.add_lit]; exact hcs' j v hj) hxs' h1x).mono fun e w' => ?_
    rintro ⟨rfl, rfl⟩
    have hnew : cs.take (i * 3) ++ xs ++ cs.drop (i * 3) = cs ++ xs := by rw [List.take_of_length_le (by omega), List.drop_of_length_le (by omega), List.append_nil]
    rw [hnew] at hnl ⊢
    refine ⟨⟨⟨w.heap.size, 0, none⟩, grownCap w (i + 1) c 30 * 3, 3⟩, grownCap w (i + 1) c 30, rfl, rfl, by simp, hG, ⟨fun k hk => heap_push_lt w.drew _ hk, by simp [World.alloc, drew_heap], rfl, rfl, rfl, Nat.le_refl _, rfl,
      _, 30, heap_push_new w.drew _, ?_, ?_, fun j v hj => ?_⟩⟩
    · have : itz.cells.size = 3 := rfl
      show _ = grownCap w (i + 1) c 30 * 3
      rw [Array.size_append, zc_size, this, List.size_toArray, hnl]; omega
    · show 0 + _ ≤ grownCap w (i + 1) c 30 * 3
      rw [hnl]; omega
    · have hj' : j < (cs ++ xs).length := (List.getElem?_eq_some_iff.1 hj).1
      show (_ : Array Value)[0 + j]? = some v
      rw [Nat.zero_add, Array.getElem?_append_left (by simpa using hj')]
      simpa using hj
  · refine (insert_grow b off n c i vb voff 1 vc cs xs w hin (by omega) hnc hroom hbig hcl (by omega) hcs' hxs' h1c h1x).mono fun e w' => ?_
    rintro ⟨rfl, rfl⟩
    generalize hROW : (cs.take (i * 3)).toArray ++ Builtin.zeroCells itz.cells (n + 1 - i) ++ Builtin.zeroCells itz.cells (grownCap w (n + 1) c 30 - (n + 1)) = ROW
    generalize hGG : grownCap w (n + 1) c 30 = GG at *
    have h3 : itz.cells.size = 3 := rfl
    have hRs : ROW.size = GG * 3 := by
      rw [← hROW, Array.size_append, Array.size_append, zc_size, zc_size, h3, List.size_toArray, List.length_take]; omega
    have hR0 : ∀ j v, j < i * 3 → cs[j]? = some v → ROW[j]? = some v := fun j v hj hv => by
      rw [← hROW, Array.append_assoc, Array.getElem?_append_left (by simp; omega), List.getElem?_toArray, List.getElem?_take, if_pos hj]; exact hv
    have hA : ((w.alloc (.cells ROW 30)).drew).heap[w.heap.size]? = some (.cells ROW 30 (0, 0)) := heap_push_new w _
    have hAo : ∀ k, k < w.heap.size → ((w.alloc (.cells ROW 30)).drew).heap[k]? = w.heap[k]? := fun k hk => heap_push_lt w _ hk
    obtain ⟨p1, p2, p3, p4, p5, c1, p6, p7, p8⟩ := set_facts (o := i * 3) hA (by rw [hRs]; omega) h1x
    obtain ⟨q1, q2, q3, q4, q5, c2, q6, q7, q8⟩ := set_facts (w := ((w.alloc (.cells ROW 30)).drew.setCells w.heap.size (i * 3) xs).drew) (o := (i + 1) * 3) (vs := cs.drop (i * 3)) p6 (by rw [p7, hRs, List.length_drop]; omega) (fun v hv => h1c v (List.mem_of_mem_drop hv))
    refine ⟨⟨⟨w.heap.size, 0, none⟩, GG * 3, 3⟩, GG, rfl, rfl, by simp, hG, ⟨fun k hk => ?_, ?_, q3.trans p3, q4.trans p4, q5.trans p5, Nat.le_refl _, rfl, c2, 30, q6, by rw [q7, p7, hRs], by show 0 + _ ≤ GG * 3; rw [hnl]; omega, fun j v hj => ?_⟩⟩
    · rw [q1 k (by omega)]
      exact (p1 k (by omega)).trans (hAo k hk)
    · rw [q2]
      show _ ≤ (World.setCells _ _ _ _).heap.size
      rw [p2]
      show _ ≤ (w.heap.push _).size
      simp
    · show c2[0 + j]? = some v
      rw [Nat.zero_add, q8, p8]
      rcases ins_get hil hj with ⟨g1, g2⟩ | ⟨g1, g2, g3⟩ | ⟨g1, g2⟩
      · rw [if_pos (by omega), if_pos (by omega)]; exact hR0 j v g1 g2
      · rw [hxl] at g2
        rw [if_pos (by omega), if_neg (by omega), if_pos (by omega)]; exact g3
      · rw [hxl] at g1 g2
        have hjl : j - 3 < cs.length := (List.getElem?_eq_some_iff.1 g2).1
        rw [if_neg (by omega), if_pos (by rw [List.length_drop]; omega), List.getElem?_drop]
        rw [show i * 3 + (j - (i + 1) * 3) = j - 3 by omega]; exact g2
theorem insert_eff {w : World} {b off n c i vb voff vc : Nat} {cs xs : List Value} {c0 : Array Value} {ty : TypeId} (hB : w.heap[b]? = some (.cells c0 ty (0, 0))) (hsz : off + c * 3 = c0.size) (hnc : n ≤ c) (hi : i ≤ n) (hcl : cs.length = n * 3)
    (hcs : ∀ (j : Nat) v, cs[j]? = some v → c0[off + j]? = some v) (hne : vb ≠ b) (hxl : xs.length = 3) (hxs' : ∀ (j : Nat) v, xs[j]? = some v → w.cell? ⟨vb, voff + j, none⟩ = some v)
    (h1c : ∀ v ∈ cs, v.oneCell' = true) (h1x : ∀ v ∈ xs, v.oneCell' = true) (hbig : (n + 1) * 32 ≤ 140737488355328) :
    Calls Tryd.prog 47 #[.slice (some ⟨b, off, none⟩) n c, .int .i64 i, .slice (some ⟨vb, voff, none⟩) 1 vc] w fun e w' =>
      ∃ (mn : MA) (cap : Nat), e = .returned (.slice (some mn.at_) (n + 1) cap) ∧ mn.e = 3 ∧ mn.at_.off + cap * 3 = mn.lim ∧ n + 1 ≤ cap ∧ Eff w w' b mn (cs.take (i * 3) ++ xs ++ cs.drop (i * 3)) := by
  have hil : i * 3 ≤ cs.length := by omega
  have hnl : (cs.take (i * 3) ++ xs ++ cs.drop (i * 3)).length = (n + 1) * 3 := by
    simp only [List.length_append, List.length_take, List.length_drop]; omega
  have hcs' : ∀ (j : Nat) v, cs[j]? = some v → w.cell? ⟨b, off + j, none⟩ = some v := fun j v h => by rw [arr_get hB]; exact hcs j v h
  obtain ⟨tv, kv, hsv, hkv⟩ : ∃ tv kv, w.shape? vb = some (tv, kv) ∧ kv ≠ 0 := by
    have h0 := hxs' 0 _ (List.getElem?_eq_getElem (by omega))
    unfold World.cell? at h0
    split at h0
    · rename_i cv tv fr hb
      split at h0
      · cases h0
      · exact ⟨tv, cv.size, by simp only [World.shape?] ; rw [hb], by have := (Array.getElem?_eq_some_iff.1 h0).1; omega⟩
    · cases h0
  have hlt : b < w.heap.size := (Array.getElem?_eq_some_iff.1 hB).1
  rcases Nat.lt_or_ge c (n + 1) with hroom | hroom
  · refine (insert_eff_g hlt hroom hnc hi hcl hcs' hne hxl hxs' h1c h1x hbig).mono fun e w' => ?_
    rintro ⟨mn, cap, q1, q2, q3, q4, q5⟩
    exact ⟨mn, cap, q1, q2, q3, q4, q5.eff b⟩
  · -- in place
    refine Calls.mono (R := fun e w' => e = .returned (.slice (some ⟨b, off, none⟩) (n + 1) c) ∧ Eff w w' b ⟨⟨b, off, none⟩, c0.size, 3⟩ (cs.take (i * 3) ++ xs ++ cs.drop (i * 3))) ?_ fun e w' h => ⟨⟨⟨b, off, none⟩, c0.size, 3⟩, c, h.1, rfl, hsz, hroom, h.2⟩
    rcases Nat.eq_or_lt_of_le hi with rfl | hin
    · refine (insert_end_room b off i c vb voff 1 vc xs w (by omega) hroom (by omega) (by omega) (fun j hj => by rw [arr_get hB, Array.getElem?_eq_getElem (by omega)]; rfl) (fun j hj => arr_fz hB) hxs' h1x).mono fun e w' => ?_
      rintro ⟨rfl, rfl⟩
      obtain ⟨p1, p2, p3, p4, p5, c1, p6, p7, p8⟩ := set_facts (o := off + i * 3) hB (by omega) h1x
      refine ⟨rfl, fun k _ hk => p1 k hk, by rw [p2]; exact Nat.le_refl _, p3, p4, p5, fun d1 ty1 h1 => ?_, .inl rfl, rfl, c1, ty, p6, p7, by show off + _ ≤ c0.size; rw [hnl]; omega, fun j v hj => ?_⟩
      · rw [hB] at h1; cases h1; exact ⟨c1, p6, p7⟩
      · show c1[off + j]? = some v
        rw [p8]
        rcases ins_get hil hj with ⟨g1, g2⟩ | ⟨g1, g2, g3⟩ | ⟨g1, g2⟩
        · rw [if_pos (by omega)]; exact hcs j v g2
        · rw [if_neg (by omega), if_pos (by omega), show off + j - (off + i * 3) = j - i * 3 by omega]; exact g3
        · have hjl : j - xs.length < cs.length := (List.getElem?_eq_some_iff.1 g2).1
          omega
    · refine (insert_shift b off n c i vb voff 1 vc cs xs w hin (by omega) hroom (by omega) hne hcl (by omega) hcs' (fun j hj => by rw [arr_get hB, Array.getElem?_eq_getElem (by omega)]; rfl) (fun j hj => arr_fz hB) hxs' h1c h1x
        tv ty kv c0.size hsv (arr_shape hB) hkv (fun k => arr_fz hB)).mono fun e w' => ?_
      rintro ⟨rfl, rfl⟩
      obtain ⟨p1, p2, p3, p4, p5, c1, p6, p7, p8⟩ := set_facts (w := w.drew) (o := off + (i + 1) * 3) (vs := cs.drop (i * 3)) hB (by rw [List.length_drop]; omega) (fun v hv => h1c v (List.mem_of_mem_drop hv))
      obtain ⟨q1, q2, q3, q4, q5, c2, q6, q7, q8⟩ := set_facts (o := off + i * 3) (vs := xs) p6 (by omega) h1x
      refine ⟨rfl, fun k _ hk => (q1 k hk).trans (p1 k hk), by rw [q2, p2]; exact Nat.le_refl _, q3.trans p3, q4.trans p4, q5.trans p5, fun d1 ty1 h1 => ?_, .inl rfl, rfl, c2, ty, q6, q7.trans p7, by show off + _ ≤ c0.size; rw [hnl]; omega, fun j v hj => ?_⟩
      · rw [hB] at h1; cases h1; exact ⟨c2, q6, q7.trans p7⟩
      · show c2[off + j]? = some v
        rw [q8, p8]
        rcases ins_get hil hj with ⟨g1, g2⟩ | ⟨g1, g2, g3⟩ | ⟨g1, g2⟩
        · rw [if_pos (by omega), if_pos (by omega)]; exact hcs j v g2
        · rw [if_neg (by omega), if_pos (by omega), show off + j - (off + i * 3) = j - i * 3 by omega]; exact g3
        · rw [hxl] at g1 g2
          have hjl : j - 3 < cs.length := (List.getElem?_eq_some_iff.1 g2).1
          rw [if_neg (by omega), if_neg (by omega), if_neg (by omega), if_pos (by rw [List.length_drop]; omega), List.getElem?_drop]
          rw [show i * 3 + (off + j - (off + (i + 1) * 3)) = j - 3 by omega]; exact g2
theorem delete_eff {w : World} {b off n c i : Nat} {cs : List Value} {c0 : Array Value} {ty : TypeId} (hB : w.heap[b]? = some (.cells c0 ty (0, 0))) (hsz : off + c * 3 = c0.size) (hnc : n ≤ c) (hi : i < n) (hcl : cs.length = n * 3)
    (hcs : ∀ (j : Nat) v, cs[j]? = some v → c0[off + j]? = some v) (h1c : ∀ v ∈ cs, v.oneCell' = true) (hbig : n * 32 ≤ 140737488355328) :
    Calls Tryd.prog 45 #[.slice (some ⟨b, off, none⟩) n c, .int .i64 i, .int .i64 ((i + 1 : Nat) : Int)] w fun e w' =>
      e = .returned (.slice (some ⟨b, off, none⟩) (n - 1) c) ∧ Eff w w' b ⟨⟨b, off, none⟩, c0.size, 3⟩ (cs.take (i * 3) ++ cs.drop ((i + 1) * 3)) := by
  refine (delete_cells b off n c i (i + 1) cs w (by omega) (by omega) hnc (by omega) hcl (fun j v h => by rw [arr_get hB]; exact hcs j v h) (fun t _ => arr_fz hB) h1c).mono fun e w' => ?_
  rintro ⟨rfl, rfl⟩
  have e1 : i + (n - (i + 1)) = n - 1 := by omega
  rw [e1]
  have hz : ∀ k, ∀ v ∈ zerosOf itz.cells k, v.oneCell' = true := fun k v hv => by
    unfold zerosOf at hv
    simp at hv
    obtain ⟨k, _, rfl⟩ := hv
    show (itz.cells[k % 3]!).oneCell' = true
    rcases (by omega : k % 3 = 0 ∨ k % 3 = 1 ∨ k % 3 = 2) with h | h | h <;> rw [h] <;> rfl
  have hzl : (zerosOf itz.cells ((n - (n - 1)) * 3)).length = 3 := by
    simp only [zerosOf, Array.length_toList, Array.size_map, Array.size_range]; omega
  obtain ⟨p1, p2, p3, p4, p5, c1, p6, p7, p8⟩ := set_facts (w := w.drew) (o := off + i * 3) (vs := cs.drop ((i + 1) * 3)) hB (by rw [List.length_drop]; omega) (fun v hv => h1c v (List.mem_of_mem_drop hv))
  obtain ⟨q1, q2, q3, q4, q5, c2, q6, q7, q8⟩ := set_facts (o := off + (n - 1) * 3) (vs := zerosOf itz.cells ((n - (n - 1)) * 3)) p6 (by rw [hzl]; omega) (hz _)
  have hnl : (cs.take (i * 3) ++ cs.drop ((i + 1) * 3)).length = (n - 1) * 3 := by
    simp only [List.length_append, List.length_take, List.length_drop]; omega
  refine ⟨rfl, fun k _ hk => (q1 k hk).trans (p1 k hk), by rw [q2, p2]; exact Nat.le_refl _, q3.trans p3, q4.trans p4, q5.trans p5, fun d1 ty1 h1 => ?_, .inl rfl, rfl, c2, ty, q6, q7.trans p7, by show off + _ ≤ c0.size; rw [hnl]; omega, fun j v hj => ?_⟩
  · rw [hB] at h1; cases h1; exact ⟨c2, q6, q7.trans p7⟩
  · show c2[off + j]? = some v
    have hjl : j < (n - 1) * 3 := by rw [← hnl]; exact (List.getElem?_eq_some_iff.1 hj).1
    rw [q8, if_pos (by omega), p8]
    rcases Nat.lt_or_ge j (i * 3) with h1 | h1
    · rw [List.getElem?_append_left (by rw [List.length_take]; omega), List.getElem?_take, if_pos h1] at hj
      rw [if_pos (by omega)]; exact hcs j v hj
    · have hl : (cs.take (i * 3)).length = i * 3 := by rw [List.length_take]; omega
      rw [List.getElem?_append_right (by omega), hl, List.getElem?_drop] at hj
      rw [if_neg (by omega), if_pos (by rw [List.length_drop]; omega), List.getElem?_drop, show (i + 1) * 3 + (off + j - (off + i * 3)) = (i + 1) * 3 + (j - i * 3) by omega]
      exact hj
end Go.Proofs.YtmndbhgbngkakaaDoor.I
