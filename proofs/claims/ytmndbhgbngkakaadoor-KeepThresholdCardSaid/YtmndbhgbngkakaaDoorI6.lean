/- slices.Insert and slices.Delete at items stand for what they do. No condition but those that are written out. -/
import Derived.Test.YtmndbhgbngkakaaDoorI5
namespace Go.Proofs.YtmndbhgbngkakaaDoor.I
open Go Go.RowKit Go.Lib Go.Proofs.YtmndbhgbngkakaaDoor.E
set_option linter.all false

def okv (v : Value) : Bool := v.oneCell' && flat depth v
def insI : Intr := fun args H =>
  match args.toList with
  | [.slice (some a) n cap, .int .i64 i, .slice (some b) l c1] =>
    match H.live a.block, H.live b.block with
    | some k, some kb =>
      if a.spot = none ∧ b.spot = none ∧ cap = OPEN ∧ l = 1 ∧ c1 ≠ ZO ∧ k.esz = 3 ∧ k.ro = false ∧ (kb.ro = true ∨ kb.fam ≠ k.fam) ∧ a.off + n * 3 = k.cells.length ∧ b.off + 3 ≤ kb.cells.length ∧ 0 ≤ i ∧ i.toNat ≤ n ∧ (n + 1) * 32 ≤ maxRoom ∧ ((k.cells.drop a.off).take (n * 3)).all okv = true ∧ ((kb.cells.drop b.off).take 3).all okv = true then
        some (.slice (some ⟨H.n, 0, none⟩) (n + 1) OPEN, H.grow a.block k false (((k.cells.drop a.off).take (i.toNat * 3)) ++ (kb.cells.drop b.off).take 3 ++ (k.cells.drop a.off).drop (i.toNat * 3)))
      else if a.spot = none ∧ b.spot = none ∧ n = 0 ∧ cap = 0 ∧ l = 1 ∧ c1 ≠ ZO ∧ i = 0 ∧ b.off + 3 ≤ kb.cells.length ∧ ((kb.cells.drop b.off).take 3).all okv = true then
        some (.slice (some ⟨H.n, 0, none⟩) 1 OPEN, H.new ((kb.cells.drop b.off).take 3) 3)
      else if a.spot = none ∧ b.spot = none ∧ cap < OPEN ∧ 0 < cap ∧ n ≤ cap ∧ l = 1 ∧ c1 ≠ ZO ∧ k.ro = false ∧ (kb.ro = true ∨ kb.fam ≠ k.fam) ∧ a.off + cap * 3 ≤ k.cells.length ∧ b.off + 3 ≤ kb.cells.length ∧ 0 ≤ i ∧ i.toNat ≤ n ∧ (n + 1) * 32 ≤ maxRoom ∧ ((k.cells.drop a.off).take (n * 3)).all okv = true ∧ ((kb.cells.drop b.off).take 3).all okv = true then
        if n + 1 ≤ cap then
          if i.toNat = n then (wr H a.block (a.off + n * 3) ((kb.cells.drop b.off).take 3)).map fun H1 => (.slice (some a) (n + 1) cap, H1)
          else match wr H a.block (a.off + (i.toNat + 1) * 3) (((k.cells.drop a.off).take (n * 3)).drop (i.toNat * 3)) with
            | some H1 => (wr H1 a.block (a.off + i.toNat * 3) ((kb.cells.drop b.off).take 3)).map fun H2 => (.slice (some a) (n + 1) cap, H2)
            | none => none
        else some (.slice (some ⟨H.n, 0, none⟩) (n + 1) OPEN, H.new (((k.cells.drop a.off).take (n * 3)).take (i.toNat * 3) ++ (kb.cells.drop b.off).take 3 ++ ((k.cells.drop a.off).take (n * 3)).drop (i.toNat * 3)) 3)
      else none
    | _, _ => none
  | [.slice none n cap, .int .i64 i, .slice (some b) l c1] =>
    match H.live b.block with
    | some kb =>
      if b.spot = none ∧ n = 0 ∧ cap = 0 ∧ l = 1 ∧ c1 ≠ ZO ∧ i = 0 ∧ b.off + 3 ≤ kb.cells.length ∧ ((kb.cells.drop b.off).take 3).all okv = true then
        some (.slice (some ⟨H.n, 0, none⟩) 1 OPEN, H.new ((kb.cells.drop b.off).take 3) 3)
      else none
    | none => none
  | _ => none
def delI : Intr := fun args H =>
  match args.toList with
  | [.slice (some a) n cap, .int .i64 i, .int .i64 j] =>
    match H.live a.block with
    | some k =>
      if a.spot = none ∧ cap = OPEN ∧ k.esz = 3 ∧ k.ro = false ∧ a.off + n * 3 = k.cells.length ∧ 0 ≤ i ∧ i.toNat < n ∧ j = i + 1 ∧ n * 32 ≤ maxRoom ∧ ((k.cells.drop a.off).take (n * 3)).all okv = true then
        some (.slice (some ⟨H.n, 0, none⟩) (n - 1) OPEN, H.grow a.block k false ((k.cells.drop a.off).take (i.toNat * 3) ++ (k.cells.drop a.off).drop ((i.toNat + 1) * 3)))
      else if a.spot = none ∧ cap < OPEN ∧ n ≤ cap ∧ k.ro = false ∧ a.off + n * 3 ≤ k.cells.length ∧ 0 ≤ i ∧ i.toNat < n ∧ j = i + 1 ∧ n * 32 ≤ maxRoom ∧ ((k.cells.drop a.off).take (n * 3)).all okv = true then
        match wr H a.block (a.off + i.toNat * 3) (((k.cells.drop a.off).take (n * 3)).drop ((i.toNat + 1) * 3)) with
        | some H1 => (wr H1 a.block (a.off + (n - 1) * 3) (zerosOf itz.cells 3)).map fun H2 => (.slice (some a) (n - 1) cap, H2)
        | none => none
      else none
    | none => none
  | _ => none
theorem okv_one {v : Value} (h : okv v = true) : v.oneCell' = true := by unfold okv at h; simp at h; exact h.1
theorem okv_flat {v : Value} (h : okv v = true) : flat depth v = true := by unfold okv at h; simp at h; exact h.2
section
variable {base : Nat} {μ : Mp} {H : Mem} {w : World}
/-- What lies in a row, in the model's memory. -/
theorem row_cells (R : Rl base μ H w) {i : Nat} {m : MA} {b : Blk} (hm : μ i = some m) (hl : H.live i = some b) {j : Nat} {v : Value} (hok : okv v = true) (h : b.cells[j]? = some v) : w.cell? (m.addr j) = some v := by
  obtain ⟨ho, ha⟩ := live_some hl
  obtain ⟨v', h1, h2⟩ := (R.row i m b hm ho).cells ha j v h
  have hf := okv_flat hok
  have := flats_eq (xs := [v]) (ys := [v']) (μ := μ) ⟨rfl, fun i x y hx hy => by
    rcases i with _ | i
    · simp at hx hy; subst hx; subst hy; exact h2
    · simp at hx⟩ (by simp [hf])
  simp at this
  rw [h1, this]
theorem wr_set (R : Rl base μ H w) {H' : Mem} {i off : Nat} {m : MA} {vs : List Value} (hm : μ i = some m) (hf : ∀ v ∈ vs, flat depth v = true) (h : wr H i off vs = some H') : Stp base μ H w μ H' (w.setCells m.at_.block (m.at_.off + off) vs) := by
  obtain ⟨w', h1, h2⟩ := wr_ok (P := Tryd.prog) R hm (VRs.of_flats (μ := μ) hf) h
  obtain ⟨b, hb, hr, hl, hone, rfl⟩ := wr_some h
  obtain ⟨ho, ha⟩ := live_some hb
  obtain ⟨x1, x2, c, ty, x3, x4⟩ := (R.row i m b hm ho).rw hr
  have hst := run_storeCells_cells (P := Tryd.prog) m.at_.block (m.at_.off + off) vs 0 w (fun j hj => by
    simp only [World.cell?, x3, Nat.add_zero]
    rw [Array.getElem?_eq_getElem (by omega)]; rfl) (fun j hj => by simp [World.frozen?, x3]) hone
  simp only [Nat.add_zero] at hst
  have e : m.addr off = ⟨m.at_.block, m.at_.off + off, none⟩ := rfl
  rw [e, hst] at h1
  cases h1
  exact h2
theorem slice_ex {a : Addr} {n c : Nat} {y : Value} (hn : 0 < c) (hc : c < OPEN) (h : VR μ (.slice (some a) n c) y) : ∃ m, μ a.block = some m ∧ y = .slice (some (m.addr a.off)) n c := by
  have hO : c ≠ OPEN := by omega
  have hR : c ≠ RO := by have : OPEN < RO := by decide
                         omega
  have hZ : c ≠ ZO := by have : OPEN < ZO := by decide
                         omega
  obtain ⟨_, _, h1⟩ := h.slice_exact hO hR hZ
  rcases h1 with h1 | ⟨A, _, _, h0⟩
  · exact h1
  · omega
theorem slice_one {a : Addr} {c1 : Nat} {y : Value} (hz : c1 ≠ ZO) (h : VR μ (.slice (some a) 1 c1) y) : ∃ m c, μ a.block = some m ∧ y = .slice (some (m.addr a.off)) 1 c := by
  cases h with
  | sliceE hs hc hm => exact ⟨_, _, hm, rfl⟩
  | sliceO hs hm hl hn => exact ⟨_, _, hm, rfl⟩
  | sliceR hs hm hn => exact ⟨_, _, hm, rfl⟩
end
theorem map_some' {α β : Type} {o : Option α} {f : α → β} {y : β} (h : o.map f = some y) : ∃ x, o = some x ∧ f x = y := Option.map_eq_some_iff.1 h
theorem itz3 : zerosOf itz.cells 3 = [.string ByteArray.empty, .int .u64 0, .int .u64 0] := by kernel_rfl
theorem delI_ok : IntrOk Tryd.prog 45 delI := by
  refine ⟨fun args H v H' hg W => ?_, fun base args H v H' hg μ w args' R ha => ?_⟩
  · unfold delI at hg
    split at hg
    · split at hg
      · rename_i k hl
        split at hg
        · rename_i hc
          cases hg
          exact .grow hl hc.2.2.2.1 (by rw [hc.2.2.1]; decide) false _
        · split at hg
          · split at hg
            · rename_i H1 h1
              obtain ⟨H2, h2, e⟩ := map_some' hg
              cases e
              exact .trans W (.wr h1) (.wr h2)
            · cases hg
          · cases hg
      · cases hg
    · cases hg
  · unfold delI at hg
    split at hg
    · rename_i a n cap i j hargs
      split at hg
      · rename_i k hl
        split at hg
        · rename_i hc
          obtain ⟨hsp, rfl, hez, hro, hlen, hi0, hin, rfl, hbig, hok⟩ := hc
          cases hg
          have hdt : (k.cells.drop a.off).take (n * 3) = k.cells.drop a.off := List.take_of_length_le (by rw [List.length_drop]; omega)
          rw [hdt] at hok
          obtain ⟨ho, hal⟩ := live_some hl
          have hal' : args'.toList.length = 3 := by rw [← ha.1, hargs]; rfl
          obtain ⟨x0, x1, x2, hx⟩ : ∃ x0 x1 x2, args'.toList = [x0, x1, x2] := by
            rcases e : args'.toList with _ | ⟨x0, _ | ⟨x1, _ | ⟨x2, _ | ⟨x3, r⟩⟩⟩⟩ <;> rw [e] at hal' <;> simp at hal'
            exact ⟨_, _, _, rfl⟩
          have h0 := ha.2 0 _ _ (by rw [hargs]; rfl) (by rw [hx]; rfl)
          have h1 := (ha.2 1 _ _ (by rw [hargs]; rfl) (by rw [hx]; rfl)).int'
          have h2 := (ha.2 2 _ _ (by rw [hargs]; rfl) (by rw [hx]; rfl)).int'
          have hae : args' = #[x0, x1, x2] := Array.ext' (by rw [hx])
          subst hae; subst h1; subst h2
          obtain ⟨_, m, hm, hy⟩ := h0.slice_open
          have r := R.row a.block m k hm ho
          obtain ⟨y1, y2, c0, ty, y3, y4⟩ := r.rw hro
          have hme : m.e = 3 := by rw [r.e, hez]
          rcases hy with ⟨c, rfl, hcl, hnc⟩ | ⟨A, rfl, hn0, _⟩
          · rw [hme] at hcl
            have hki : (i.toNat : Int) = i := Int.toNat_of_nonneg hi0
            have key := delete_eff (w := w) (b := m.at_.block) (off := m.at_.off + a.off) (n := n) (c := c) (i := i.toNat) (cs := k.cells.drop a.off) y3 (by rw [y4]; exact hcl) hnc hin (by rw [List.length_drop]; omega) (fun j v hj => by
              have hov := List.all_eq_true.1 hok v (List.mem_of_getElem? hj)
              rw [List.getElem?_drop] at hj
              have := row_cells R hm hl hov hj
              simp only [MA.addr, World.cell?, y3] at this
              rw [Nat.add_assoc]
              simpa using this) (fun v hv => okv_one (List.all_eq_true.1 hok v hv)) hbig
            rw [Int.natCast_succ, hki] at key
            refine key.mono fun e w' => ?_
            rintro ⟨rfl, he⟩
            have S := he.stp R hm hl hro (by rw [hez]; decide) (by rw [hez]) (fun v hv => by
              rcases List.mem_append.1 hv with hv | hv
              · exact okv_flat (List.all_eq_true.1 hok v (List.mem_of_mem_take hv))
              · exact okv_flat (List.all_eq_true.1 hok v (List.mem_of_mem_drop hv)))
            refine ⟨_, _, rfl, S, ?_⟩
            exact VR.sliceO (μ := upd μ H.n ⟨⟨m.at_.block, m.at_.off + a.off, none⟩, c0.size, 3⟩) (a := ⟨H.n, 0, none⟩) (n := n - 1) (c := c) rfl (upd_same μ H.n _) (by rw [y4]; simpa using hcl) (by omega)
          · exfalso; omega
        · split at hg
          · rename_i hc
            obtain ⟨hsp, hco, hnc, hro, hlen, hi0, hin, rfl, hbig, hok⟩ := hc
            have hbig' : n * 32 ≤ 140737488355328 := hbig
            split at hg
            · rename_i H1 w1
              obtain ⟨H2, w2, e⟩ := map_some' hg
              cases e
              obtain ⟨ho, hal⟩ := live_some hl
              have hal' : args'.toList.length = 3 := by rw [← ha.1, hargs]; rfl
              obtain ⟨x0, x1, x2, hx⟩ : ∃ x0 x1 x2, args'.toList = [x0, x1, x2] := by
                rcases e : args'.toList with _ | ⟨x0, _ | ⟨x1, _ | ⟨x2, _ | ⟨x3, r⟩⟩⟩⟩ <;> rw [e] at hal' <;> simp at hal'
                exact ⟨_, _, _, rfl⟩
              have h0 := ha.2 0 _ _ (by rw [hargs]; rfl) (by rw [hx]; rfl)
              have h1 := (ha.2 1 _ _ (by rw [hargs]; rfl) (by rw [hx]; rfl)).int'
              have h2 := (ha.2 2 _ _ (by rw [hargs]; rfl) (by rw [hx]; rfl)).int'
              have hae : args' = #[x0, x1, x2] := Array.ext' (by rw [hx])
              subst hae; subst h1; subst h2
              obtain ⟨m, hm, rfl⟩ := slice_ex (by omega) hco h0
              have r := R.row a.block m k hm ho
              obtain ⟨y1, y2, c0, ty, y3, y4⟩ := r.rw hro
              have hki : (i.toNat : Int) = i := Int.toNat_of_nonneg hi0
              have hfl : ∀ v, v ∈ (k.cells.drop a.off).take (n * 3) → okv v = true := fun v hv => List.all_eq_true.1 hok v hv
              have key := delete_cells m.at_.block (m.at_.off + a.off) n cap i.toNat (i.toNat + 1) ((k.cells.drop a.off).take (n * 3)) w (by omega) (by omega) hnc (by omega) (by rw [List.length_take, List.length_drop]; omega) (fun j v hj => by
                have hov := List.all_eq_true.1 hok v (List.mem_of_getElem? hj)
                rw [List.getElem?_take] at hj
                split at hj
                · rw [List.getElem?_drop] at hj
                  have := row_cells R hm hl hov hj
                  simpa [MA.addr, Nat.add_assoc] using this
                · cases hj) (fun t _ => arr_fz y3) (fun v hv => okv_one (hfl v hv))
              rw [Int.natCast_succ, hki] at key
              have e1 : i.toNat + (n - (i.toNat + 1)) = n - 1 := by omega
              have e2 : (n - (n - 1)) * 3 = 3 := by omega
              rw [e1, e2] at key
              refine key.mono fun e w' => ?_
              rintro ⟨rfl, rfl⟩
              have S1 := wr_set (R.drew).rl hm (fun v hv => okv_flat (hfl v (List.mem_of_mem_drop hv))) w1
              have S2 := wr_set S1.rl hm (fun v hv => by rw [itz3] at hv; simp at hv; rcases hv with rfl | rfl <;> rfl) w2
              rw [← Nat.add_assoc] at S1 S2
              refine ⟨μ, _, rfl, Stp.trans R R.drew (Stp.trans (R.drew).rl S1 ?_), .sliceE hsp hco hm⟩
              rw [← Nat.add_assoc] at S2
              exact S2
            · cases hg
          · cases hg
      · cases hg
    · cases hg
theorem alloc_eff {w : World} {B : Nat} (hB : B < w.heap.size) {xs : List Value} {n G : Nat} (hl : xs.length = n * 3) (hG : n ≤ G) :
    Eff w (w.drew.alloc (.cells (xs.toArray ++ Builtin.zeroCells itz.cells (G - n)) 30)) B ⟨⟨w.heap.size, 0, none⟩, G * 3, 3⟩ xs := by
  refine ⟨fun k hk _ => heap_push_lt w.drew _ hk, by simp [World.alloc, drew_heap], rfl, rfl, rfl, fun c1 ty1 h1 => ⟨c1, (heap_push_lt w.drew _ hB).trans h1, rfl⟩, .inr (Nat.le_refl _), rfl, _, 30, heap_push_new w.drew _, ?_, ?_, fun j v hj => ?_⟩
  · have : itz.cells.size = 3 := rfl
    show _ = G * 3
    rw [Array.size_append, zc_size, this, List.size_toArray, hl]; omega
  · show 0 + _ ≤ G * 3
    rw [hl]; omega
  · have hj' : j < xs.length := (List.getElem?_eq_some_iff.1 hj).1
    show (_ : Array Value)[0 + j]? = some v
    rw [Nat.zero_add, Array.getElem?_append_left (by simpa using hj')]
    simpa using hj
theorem addr0 {mn : MA} (h : mn.at_.spot = none) : mn.addr 0 = mn.at_ := by
  unfold MA.addr
  obtain ⟨⟨b, o, s⟩, l, e⟩ := mn
  simp at h; subst h; rfl
/-- A new row of one. -/
theorem fresh_ok {base : Nat} {μ : Mp} {H : Mem} {w : World} (R : Rl base μ H w) {b : Addr} {mb : MA} {kb : Blk} (hmb : μ b.block = some mb) (hlb : H.live b.block = some kb) (hblen : b.off + 3 ≤ kb.cells.length) (hokb : ((kb.cells.drop b.off).take 3).all okv = true) (A : Option Addr) (c2 : Nat) :
    Calls Tryd.prog 47 #[.slice A 0 0, .int .i64 0, .slice (some (mb.addr b.off)) 1 c2] w (fun e w' => ∃ μ' v', e = .returned v' ∧ Stp base μ H w μ' (H.new ((kb.cells.drop b.off).take 3) 3) w' ∧ VR μ' (.slice (some ⟨H.n, 0, none⟩) 1 OPEN) v') := by
  have hxl : ((kb.cells.drop b.off).take 3).length = 3 := by rw [List.length_take, List.length_drop]; omega
  have hxs : ∀ (j : Nat) v, ((kb.cells.drop b.off).take 3)[j]? = some v → w.cell? ⟨mb.at_.block, mb.at_.off + b.off + j, none⟩ = some v := fun j v hj => by
    have hov := List.all_eq_true.1 hokb v (List.mem_of_getElem? hj)
    rw [List.getElem?_take] at hj
    split at hj
    · rw [List.getElem?_drop] at hj
      have := row_cells R hmb hlb hov hj
      simpa [MA.addr, Nat.add_assoc] using this
    · cases hj
  have h1x : ∀ v ∈ (kb.cells.drop b.off).take 3, v.oneCell' = true := fun v hv => okv_one (List.all_eq_true.1 hokb v hv)
  have hfx : ∀ v ∈ (kb.cells.drop b.off).take 3, flat depth v = true := fun v hv => okv_flat (List.all_eq_true.1 hokb v hv)
  have key := insert_end_grow A 0 0 mb.at_.block (mb.at_.off + b.off) 1 c2 [] ((kb.cells.drop b.off).take 3) w (by omega) (Nat.le_refl _) (by omega) (by omega) rfl (by omega) (fun _ => rfl) (fun a ha j v hj => by simp at hj) hxs h1x
  refine key.mono fun e w' => ?_
  rintro ⟨rfl, rfl⟩
  have hG := grownCap_ge w (0 + 1) 0 30
  have S := (R.heap (w1 := w.drew) rfl).new 3 30 (Builtin.zeroCells itz.cells (grownCap w (0 + 1) 0 30 - (0 + 1))).toList (VRs.of_flats (μ := μ) hfx)
  have hrow : (((kb.cells.drop b.off).take 3) ++ (Builtin.zeroCells itz.cells (grownCap w (0 + 1) 0 30 - (0 + 1))).toList).toArray = (([] ++ (kb.cells.drop b.off).take 3).toArray ++ Builtin.zeroCells itz.cells (grownCap w (0 + 1) 0 30 - (0 + 1))) := by
    apply Array.ext'; simp
  rw [hrow] at S
  refine ⟨_, _, rfl, Stp.trans R R.drew S, ?_⟩
  have h3 : itz.cells.size = 3 := rfl
  exact VR.sliceO (a := ⟨H.n, 0, none⟩) (n := 1) (c := grownCap w (0 + 1) 0 30) rfl (upd_same μ H.n _) (by
    show 0 + 0 + grownCap w (0 + 1) 0 30 * 3 = (((kb.cells.drop b.off).take 3) ++ (Builtin.zeroCells itz.cells (grownCap w (0 + 1) 0 30 - (0 + 1))).toList).length
    rw [List.length_append, hxl, Array.length_toList, zc_size, h3]; omega) hG
theorem insI_ok : IntrOk Tryd.prog 47 insI := by
  refine ⟨fun args H v H' hg W => ?_, fun base args H v H' hg μ w args' R ha => ?_⟩
  · unfold insI at hg
    split at hg
    · split at hg
      · rename_i k kb hl hlb
        split at hg
        · rename_i hc
          cases hg
          exact .grow hl hc.2.2.2.2.2.2.1 (by rw [hc.2.2.2.2.2.1]; decide) false _
        · split at hg
          · cases hg; exact .new _ _ _
          · split at hg
            · split at hg
              · split at hg
                · obtain ⟨H1, h1, e⟩ := map_some' hg
                  cases e; exact .wr h1
                · split at hg
                  · rename_i H1 h1
                    obtain ⟨H2, h2, e⟩ := map_some' hg
                    cases e
                    exact .trans W (.wr h1) (.wr h2)
                  · cases hg
              · cases hg; exact .new _ _ _
            · cases hg
      · cases hg
    · split at hg
      · split at hg
        · cases hg; exact .new _ _ _
        · cases hg
      · cases hg
    · cases hg
  · unfold insI at hg
    split at hg
    · rename_i a n cap i b l c1 hargs
      split at hg
      · rename_i k kb hl hlb
        have hal' : args'.toList.length = 3 := by rw [← ha.1, hargs]; rfl
        obtain ⟨x0, x1, x2, hx⟩ : ∃ x0 x1 x2, args'.toList = [x0, x1, x2] := by
          rcases e : args'.toList with _ | ⟨x0, _ | ⟨x1, _ | ⟨x2, _ | ⟨x3, r⟩⟩⟩⟩ <;> rw [e] at hal' <;> simp at hal'
          exact ⟨_, _, _, rfl⟩
        have h0 := ha.2 0 _ _ (by rw [hargs]; rfl) (by rw [hx]; rfl)
        have h1 := (ha.2 1 _ _ (by rw [hargs]; rfl) (by rw [hx]; rfl)).int'
        have h2 := ha.2 2 _ _ (by rw [hargs]; rfl) (by rw [hx]; rfl)
        have hae : args' = #[x0, x1, x2] := Array.ext' (by rw [hx])
        subst hae; subst h1
        split at hg
        · rename_i hc
          obtain ⟨hsp, hspb, rfl, rfl, hz, hez, hro, hdis, hlen, hblen, hi0, hin, hbig, hok, hokb⟩ := hc
          cases hg
          have hdt : (k.cells.drop a.off).take (n * 3) = k.cells.drop a.off := List.take_of_length_le (by rw [List.length_drop]; omega)
          rw [hdt] at hok
          obtain ⟨ho, hal⟩ := live_some hl
          obtain ⟨hob, halb⟩ := live_some hlb
          obtain ⟨mb, c2, hmb, rfl⟩ := slice_one hz h2
          obtain ⟨_, m, hm, hy⟩ := h0.slice_open
          have r := R.row a.block m k hm ho
          obtain ⟨y1, y2, c0, ty, y3, y4⟩ := r.rw hro
          have hme : m.e = 3 := by rw [r.e, hez]
          have hki : (i.toNat : Int) = i := Int.toNat_of_nonneg hi0
          have hne : mb.at_.block ≠ m.at_.block := fun e => by
            have := R.apart b.block a.block mb m hmb hm e
            rw [owner_blk hob, owner_blk ho, hro] at this
            rcases hdis with h | h
            · rw [h] at this; simp at this
            · cases hr : kb.ro <;> rw [hr] at this <;> simp at this
              exact h this
          have hxl : ((kb.cells.drop b.off).take 3).length = 3 := by rw [List.length_take, List.length_drop]; omega
          have hxs : ∀ (j : Nat) v, ((kb.cells.drop b.off).take 3)[j]? = some v → w.cell? ⟨mb.at_.block, mb.at_.off + b.off + j, none⟩ = some v := fun j v hj => by
            have hov := List.all_eq_true.1 hokb v (List.mem_of_getElem? hj)
            rw [List.getElem?_take] at hj
            split at hj
            · rw [List.getElem?_drop] at hj
              have := row_cells R hmb hlb hov hj
              simpa [MA.addr, Nat.add_assoc] using this
            · cases hj
          have h1x : ∀ v ∈ (kb.cells.drop b.off).take 3, v.oneCell' = true := fun v hv => okv_one (List.all_eq_true.1 hokb v hv)
          have hfl : ∀ v, v ∈ (k.cells.drop a.off).take (i.toNat * 3) ++ (kb.cells.drop b.off).take 3 ++ (k.cells.drop a.off).drop (i.toNat * 3) → flat depth v = true := fun v hv => by
            rcases List.mem_append.1 hv with hv | hv
            · rcases List.mem_append.1 hv with hv | hv
              · exact okv_flat (List.all_eq_true.1 hok v (List.mem_of_mem_take hv))
              · exact okv_flat (List.all_eq_true.1 hokb v hv)
            · exact okv_flat (List.all_eq_true.1 hok v (List.mem_of_mem_drop hv))
          have fin : ∀ (mn : MA) (cp : Nat) (w' : World), mn.e = 3 → mn.at_.off + cp * 3 = mn.lim → n + 1 ≤ cp → Eff w w' m.at_.block mn ((k.cells.drop a.off).take (i.toNat * 3) ++ (kb.cells.drop b.off).take 3 ++ (k.cells.drop a.off).drop (i.toNat * 3)) →
              ∃ μ' v', Ending.returned (.slice (some mn.at_) (n + 1) cp) = Ending.returned v' ∧ Stp base μ H w μ' (H.grow a.block k false ((k.cells.drop a.off).take (i.toNat * 3) ++ (kb.cells.drop b.off).take 3 ++ (k.cells.drop a.off).drop (i.toNat * 3))) w' ∧ VR μ' (.slice (some ⟨H.n, 0, none⟩) (n + 1) OPEN) v' := fun mn cp w' q1 q2 q3 he => by
            refine ⟨_, _, rfl, he.stp R hm hl hro (by rw [hez]; decide) (by rw [hez, q1]) hfl, ?_⟩
            have := VR.sliceO (μ := upd μ H.n mn) (a := ⟨H.n, 0, none⟩) (n := n + 1) (c := cp) rfl (upd_same μ H.n _) (by rw [q1]; simpa using q2) q3
            rwa [addr0 he.spot] at this
          rcases hy with ⟨c, rfl, hcl, hnc⟩ | ⟨A, rfl, hn0, _⟩
          · rw [hme] at hcl
            have key := insert_eff (w := w) (b := m.at_.block) (off := m.at_.off + a.off) (n := n) (c := c) (i := i.toNat) (vb := mb.at_.block) (voff := mb.at_.off + b.off) (vc := c2) (cs := k.cells.drop a.off) (xs := (kb.cells.drop b.off).take 3) y3 (by rw [y4]; exact hcl) hnc hin (by rw [List.length_drop]; omega) (fun j v hj => by
              have hov := List.all_eq_true.1 hok v (List.mem_of_getElem? hj)
              rw [List.getElem?_drop] at hj
              have := row_cells R hm hl hov hj
              simp only [MA.addr, World.cell?, y3] at this
              rw [Nat.add_assoc]
              simpa using this) hne hxl hxs (fun v hv => okv_one (List.all_eq_true.1 hok v hv)) h1x hbig
            rw [hki] at key
            refine key.mono fun e w' => ?_
            rintro ⟨mn, cp, rfl, q1, q2, q3, he⟩
            exact fin mn cp w' q1 q2 q3 he
          · subst hn0
            have hi00 : i = 0 := by omega
            subst hi00
            have hnil : k.cells.drop a.off = [] := List.drop_of_length_le (by omega)
            have key := insert_end_grow (some A) 0 0 mb.at_.block (mb.at_.off + b.off) 1 c2 [] ((kb.cells.drop b.off).take 3) w (by omega) (Nat.le_refl _) (by omega) (by omega) rfl (by omega) (fun h => by cases h) (fun a ha j v hj => by simp at hj) hxs h1x
            refine key.mono fun e w' => ?_
            rintro ⟨rfl, rfl⟩
            have he := alloc_eff (w := w) (B := m.at_.block) (R.blk_lt hm) (xs := (kb.cells.drop b.off).take 3) (n := 1) (G := grownCap w (0 + 1) 0 30) hxl (grownCap_ge w _ _ _)
            refine fin ⟨⟨w.heap.size, 0, none⟩, grownCap w (0 + 1) 0 30 * 3, 3⟩ (grownCap w (0 + 1) 0 30) _ rfl (by simp) (grownCap_ge w _ _ _) ?_
            rw [hnil]
            simpa using he
        · split at hg
          · rename_i hc
            obtain ⟨hsp, hspb, rfl, rfl, rfl, hz, rfl, hblen, hokb⟩ := hc
            cases hg
            obtain ⟨mb, c2, hmb, rfl⟩ := slice_one hz h2
            obtain ⟨A, rfl⟩ : ∃ A, x0 = .slice A 0 0 := by
              cases h0 with
              | sliceE hs hc hm => exact ⟨_, rfl⟩
              | sliceE0 hs => exact ⟨_, rfl⟩
            exact fresh_ok R hmb hlb hblen hokb A c2
          · split at hg
            · rename_i hc
              obtain ⟨hsp, hspb, hco, hc0, hnc, rfl, hz, hro, hdis, hlen, hblen, hi0, hin, hbig, hok, hokb⟩ := hc
              have hbig' : (n + 1) * 32 ≤ 140737488355328 := hbig
              obtain ⟨ho, hal⟩ := live_some hl
              obtain ⟨hob, halb⟩ := live_some hlb
              obtain ⟨mb, c2, hmb, rfl⟩ := slice_one hz h2
              obtain ⟨m, hm, rfl⟩ := slice_ex hc0 hco h0
              have r := R.row a.block m k hm ho
              obtain ⟨y1, y2, c0, ty, y3, y4⟩ := r.rw hro
              have hki : (i.toNat : Int) = i := Int.toNat_of_nonneg hi0
              have hne : mb.at_.block ≠ m.at_.block := fun e => by
                have := R.apart b.block a.block mb m hmb hm e
                rw [owner_blk hob, owner_blk ho, hro] at this
                rcases hdis with h | h
                · rw [h] at this; simp at this
                · cases hr : kb.ro <;> rw [hr] at this <;> simp at this
                  exact h this
              have hxl : ((kb.cells.drop b.off).take 3).length = 3 := by rw [List.length_take, List.length_drop]; omega
              have hxs : ∀ (j : Nat) v, ((kb.cells.drop b.off).take 3)[j]? = some v → w.cell? ⟨mb.at_.block, mb.at_.off + b.off + j, none⟩ = some v := fun j v hj => by
                have hov := List.all_eq_true.1 hokb v (List.mem_of_getElem? hj)
                rw [List.getElem?_take] at hj
                split at hj
                · rw [List.getElem?_drop] at hj
                  have := row_cells R hmb hlb hov hj
                  simpa [MA.addr, Nat.add_assoc] using this
                · cases hj
              have hfx : ∀ v, v ∈ (kb.cells.drop b.off).take 3 → okv v = true := fun v hv => List.all_eq_true.1 hokb v hv
              have hfl : ∀ v, v ∈ (k.cells.drop a.off).take (n * 3) → okv v = true := fun v hv => List.all_eq_true.1 hok v hv
              have hcl : ((k.cells.drop a.off).take (n * 3)).length = n * 3 := by rw [List.length_take, List.length_drop]; omega
              have hcs : ∀ (j : Nat) v, ((k.cells.drop a.off).take (n * 3))[j]? = some v → w.cell? ⟨m.at_.block, m.at_.off + a.off + j, none⟩ = some v := fun j v hj => by
                have hov := List.all_eq_true.1 hok v (List.mem_of_getElem? hj)
                rw [List.getElem?_take] at hj
                split at hj
                · rw [List.getElem?_drop] at hj
                  have := row_cells R hm hl hov hj
                  simpa [MA.addr, Nat.add_assoc] using this
                · cases hj
              have hsome : ∀ j, j < cap * 3 → (w.cell? ⟨m.at_.block, m.at_.off + a.off + j, none⟩).isSome = true := fun j hj => by
                rw [arr_get y3, Array.getElem?_eq_getElem (by omega)]; rfl
              split at hg
              · rename_i hroom
                split at hg
                · rename_i hin'
                  obtain ⟨H1, w1, e⟩ := map_some' hg
                  cases e
                  have key := insert_end_room m.at_.block (m.at_.off + a.off) n cap mb.at_.block (mb.at_.off + b.off) 1 c2 ((kb.cells.drop b.off).take 3) w (by omega) hroom (by omega) (by omega) (fun j hj => by rw [Nat.add_assoc]; exact hsome _ (by omega)) (fun j hj => arr_fz y3) hxs (fun v hv => okv_one (hfx v hv))
                  rw [← hki, hin']
                  refine key.mono fun e w' => ?_
                  rintro ⟨rfl, rfl⟩
                  have S1 := wr_set R hm (fun v hv => okv_flat (hfx v hv)) w1
                  rw [← Nat.add_assoc] at S1
                  exact ⟨μ, _, rfl, S1, .sliceE hsp hco hm⟩
                · rename_i hin'
                  split at hg
                  · rename_i H1 w1
                    obtain ⟨H2, w2, e⟩ := map_some' hg
                    cases e
                    have key := insert_shift m.at_.block (m.at_.off + a.off) n cap i.toNat mb.at_.block (mb.at_.off + b.off) 1 c2 ((k.cells.drop a.off).take (n * 3)) ((kb.cells.drop b.off).take 3) w (by omega) (by omega) hroom (by omega) hne hcl (by omega) hcs (fun j hj => hsome j (by omega)) (fun j hj => arr_fz y3) hxs (fun v hv => okv_one (hfl v hv)) (fun v hv => okv_one (hfx v hv))
                    obtain ⟨tv, kv, hsv, hkv⟩ : ∃ tv kv, w.shape? mb.at_.block = some (tv, kv) ∧ kv ≠ 0 := by
                      have h0 := hxs 0 _ (List.getElem?_eq_getElem (by omega))
                      unfold World.cell? at h0
                      split at h0
                      · rename_i cv tv fr hb
                        split at h0
                        · cases h0
                        · exact ⟨tv, cv.size, by simp only [World.shape?] ; rw [hb], by have := (Array.getElem?_eq_some_iff.1 h0).1; omega⟩
                      · cases h0
                    have key := key tv ty kv c0.size hsv (arr_shape y3) hkv (fun k => arr_fz y3)
                    rw [hki] at key
                    refine key.mono fun e w' => ?_
                    rintro ⟨rfl, rfl⟩
                    have S1 := wr_set (R.drew).rl hm (fun v hv => okv_flat (hfl v (List.mem_of_mem_drop hv))) w1
                    have S2 := wr_set S1.rl hm (fun v hv => okv_flat (hfx v hv)) w2
                    rw [← Nat.add_assoc] at S1 S2
                    refine ⟨μ, _, rfl, Stp.trans R R.drew (Stp.trans (R.drew).rl S1 ?_), .sliceE hsp hco hm⟩
                    rw [← Nat.add_assoc] at S2
                    exact S2
                  · cases hg
              · rename_i hroom
                cases hg
                have key := insert_eff_g (R.blk_lt hm) (by omega) hnc hin hcl hcs hne hxl hxs (fun v hv => okv_one (hfl v hv)) (fun v hv => okv_one (hfx v hv)) hbig (vc := c2)
                rw [hki] at key
                refine key.mono fun e w' => ?_
                rintro ⟨mn, cp, rfl, q1, q2, q3, he⟩
                have S := he.stp R (fun v hv => by
                  rcases List.mem_append.1 hv with hv | hv
                  · rcases List.mem_append.1 hv with hv | hv
                    · exact okv_flat (hfl v (List.mem_of_mem_take hv))
                    · exact okv_flat (hfx v hv)
                  · exact okv_flat (hfl v (List.mem_of_mem_drop hv)))
                rw [q1] at S
                refine ⟨_, _, rfl, S, ?_⟩
                have := VR.sliceO (μ := upd μ H.n mn) (a := ⟨H.n, 0, none⟩) (n := n + 1) (c := cp) rfl (upd_same μ H.n _) (by rw [q1]; simpa using q2) q3
                rwa [addr0 he.spot] at this
            · cases hg
      · cases hg
    · rename_i n cap i b l c1 hargs
      split at hg
      · rename_i kb hlb
        split at hg
        · rename_i hc
          obtain ⟨hspb, rfl, rfl, rfl, hz, rfl, hblen, hokb⟩ := hc
          cases hg
          have hal' : args'.toList.length = 3 := by rw [← ha.1, hargs]; rfl
          obtain ⟨x0, x1, x2, hx⟩ : ∃ x0 x1 x2, args'.toList = [x0, x1, x2] := by
            rcases e : args'.toList with _ | ⟨x0, _ | ⟨x1, _ | ⟨x2, _ | ⟨x3, r⟩⟩⟩⟩ <;> rw [e] at hal' <;> simp at hal'
            exact ⟨_, _, _, rfl⟩
          have h0 := (ha.2 0 _ _ (by rw [hargs]; rfl) (by rw [hx]; rfl)).slice_nil
          have h1 := (ha.2 1 _ _ (by rw [hargs]; rfl) (by rw [hx]; rfl)).int'
          have h2 := ha.2 2 _ _ (by rw [hargs]; rfl) (by rw [hx]; rfl)
          have hae : args' = #[x0, x1, x2] := Array.ext' (by rw [hx])
          subst hae; subst h1; subst h0
          obtain ⟨mb, c2, hmb, rfl⟩ := slice_one hz h2
          exact fresh_ok R hmb hlb hblen hokb none c2
        · cases hg
      · cases hg
    · cases hg
end Go.Proofs.YtmndbhgbngkakaaDoor.I
