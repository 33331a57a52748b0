/- Words for walks through functions that only read slices: what is held of the world, in one fact. No condition. -/
import Derived.Test.YtecbbenfcepohaaDoorYAll
import Derived.KernelRfl
namespace Go.Proofs.YtecbbenfcepohaaDoor.RW
open Go.RowKit Go.Proofs.YtecbbenfcepohaaDoorW.PrintWords Go.Proofs.YtecbbenfcepohaaDoorW.PrintLast Go.Proofs.YtecbbenfcepohaaDoorW.PrintMore
set_option linter.unusedVariables false
/-- A slice of limbs that reads. -/
structure Row (w : World) (A : Option Addr) (c : Nat) (l : List Int) : Prop where
  le : l.length ≤ c
  rd : Kd.C (Kd.int .u32) w A l.length l
theorem Row.nil (w : World) : Row w none 0 [] := ⟨Nat.le_refl _, (Kd.V_reads' (e := 0) (base := 0) (ok := fun _ => True) (Kd.V_nil (Kd.int .u32) 0 w 0 (fun _ => True))).2.2⟩
theorem Row.below {w w' : World} {A : Option Addr} {c : Nat} {l : List Int} (h : Row w A c l) (hb : Below w.heap.size w w') : Row w' A c l := ⟨h.le, Kd.C_below h.rd hb⟩
theorem row_R {d : Nat} {w : World} {base : Nat} {ok : Nat → Prop} {v : Value} {l : List Int} (h : Kd.R (Kd.int .u32) d w base ok v l) : ∃ A c, v = .slice A l.length c ∧ Row w A c l := by
  obtain ⟨A, c, rfl⟩ := Kd.R_slice h
  exact ⟨A, c, rfl, (Kd.R_reads' h).2.1, (Kd.R_reads' h).2.2⟩
theorem row_V {d : Nat} {w : World} {base : Nat} {ok : Nat → Prop} {v : Value} {l : List Int} (h : Kd.V (Kd.int .u32) d w base ok v l) : ∃ A c, v = .slice A l.length c ∧ Row w A c l := by
  obtain ⟨A, c, rfl⟩ := Kd.V_slice h
  exact ⟨A, c, rfl, (Kd.V_reads' h).2.1, (Kd.V_reads' h).2.2⟩
theorem Row.V {w : World} {A : Option Addr} {c : Nat} {l : List Int} (h : Row w A c l) (e base : Nat) : Kd.V (Kd.int .u32) e w base (fun k_ => k_ < w.heap.size) (.slice A l.length c) l :=
  Kd.V_mk h.le (Kd.C_F (Kd.heap_int .u32) h.rd)
def no32 (v : Value) : Bool := match v with | .int .u32 _ => false | _ => true
/-- What is held: the rows, and the cells of the variables that lie in memory. -/
structure St (w0 w : World) (R : List (Option Addr × Nat × List Int)) (B : List (Nat × Array Value × TypeId)) : Prop where
  below : Below w0.heap.size w0 w
  row : ∀ p ∈ R, Row w p.1 p.2.1 p.2.2
  box : ∀ b ∈ B, w.heap[b.1]? = some (.cells b.2.1 b.2.2 (0, 0)) ∧ w0.heap.size ≤ b.1 ∧ b.2.1.toList.all no32 = true
  apart : (B.map (·.1)).Nodup
section
variable {w0 w w1 : World} {R : List (Option Addr × Nat × List Int)} {B : List (Nat × Array Value × TypeId)}
theorem St.start (w : World) : St w w [] [] := ⟨Below.refl _ _, (fun _ h => by cases h), (fun _ h => by cases h), List.nodup_nil⟩
theorem St.add {A : Option Addr} {c : Nat} {l : List Int} (S : St w0 w R B) (h : Row w A c l) : St w0 w ((A, c, l) :: R) B :=
  ⟨S.below, fun p hp => by rcases List.mem_cons.1 hp with rfl | hp; exact h; exact S.row p hp, S.box, S.apart⟩
theorem St.step (S : St w0 w R B) (hb : Below w.heap.size w w1) : St w0 w1 R B :=
  ⟨below_step S.below hb, fun p hp => (S.row p hp).below hb, fun b hb' => ⟨(hb.block _ (blk_lt (S.box b hb').1)).trans (S.box b hb').1, (S.box b hb').2⟩, S.apart⟩
theorem St.drewN (S : St w0 w R B) (m : Nat) : St w0 (w.drewN m) R B := S.step (pw_below_drewN (Below.refl _ _) m)
theorem St.drew (S : St w0 w R B) : St w0 w.drew R B := S.step (below_drew1 (Below.refl _ _))
theorem St.at {A : Option Addr} {c : Nat} {l : List Int} (S : St w0 w R B) (i : Nat) (h : R[i]? = some (A, c, l)) : Row w A c l := S.row _ (List.mem_of_getElem? h)
theorem St.cell {g : Nat} {cs : Array Value} {t : TypeId} (S : St w0 w R B) (i : Nat) (h : B[i]? = some (g, cs, t)) (j : Nat) {v : Value} (hv : cs[j]? = some v) : w.cell? ⟨g, j, none⟩ = some v :=
  (blk_cell (S.box _ (List.mem_of_getElem? h)).1 j).trans hv
theorem St.frozen {g : Nat} {cs : Array Value} {t : TypeId} (S : St w0 w R B) (i : Nat) (h : B[i]? = some (g, cs, t)) (j : Nat) : w.frozen? ⟨g, j, none⟩ = false := blk_frozen (S.box _ (List.mem_of_getElem? h)).1 j
theorem St.blk {g : Nat} {cs : Array Value} {t : TypeId} (S : St w0 w R B) (i : Nat) (h : B[i]? = some (g, cs, t)) : w.heap[g]? = some (.cells cs t (0, 0)) := (S.box _ (List.mem_of_getElem? h)).1
theorem St.new {g : Nat} {cs : Array Value} {t : TypeId} (S : St w0 w R B) (hn : cs.toList.all no32 = true) (hg : g = w.heap.size) (h1 : w1.heap[g]? = some (.cells cs t (0, 0))) (hb : Below w.heap.size w w1) : St w0 w1 R ((g, cs, t) :: B) := by
  refine ⟨(S.step hb).below, (S.step hb).row, fun b hb' => ?_, List.nodup_cons.2 ⟨fun hm => ?_, S.apart⟩⟩
  · rcases List.mem_cons.1 hb' with rfl | hb'
    · exact ⟨h1, by show w0.heap.size ≤ g; rw [hg]; exact S.below.size, hn⟩
    · exact (S.step hb).box b hb'
  · obtain ⟨b, hb', e⟩ := List.mem_map.1 hm
    have h3 := blk_lt (S.box b hb').1
    have e : b.1 = g := e
    omega
theorem Row.far {A : Option Addr} {c : Nat} {l : List Int} (h : Row w A c l) {p : Addr} {v : Value} (hv : w.cell? p = some v) (hn : no32 v = true) (u : Value) : Row (w.setCell p u) A c l := by
  have hr := Kd.reads_of_C (d := (0 : Int)) h.rd
  refine ⟨h.le, Kd.C_of_reads (d := (0 : Int)) ⟨hr.1, hr.2.1, fun hn' => ?_⟩⟩
  obtain ⟨ad, e, hc⟩ := hr.2.2 hn'
  refine ⟨ad, e, fun j hj => ?_⟩
  rw [World.cell?_setCell_other, hc j hj]
  intro e'
  have := hc j hj
  rw [← e', hv] at this
  cases this
  simp [no32] at hn
theorem set_all {cs : Array Value} {j : Nat} {u : Value} (h : cs.toList.all no32 = true) (hu : no32 u = true) : (cs.setIfInBounds j u).toList.all no32 = true := by
  rw [List.all_eq_true] at h ⊢
  intro x hx
  rcases Array.mem_or_eq_of_mem_setIfInBounds (Array.mem_toList_iff.1 hx) with hx | rfl
  · exact h x (Array.mem_toList_iff.2 hx)
  · exact hu
theorem St.put {g : Nat} {cs : Array Value} {t : TypeId} (S : St w0 w R B) (i : Nat) (h : B[i]? = some (g, cs, t)) (j : Nat) {v u : Value} (hv : cs[j]? = some v) (hu : no32 u = true) :
    St w0 (w.setCell ⟨g, j, none⟩ u) R (B.set i (g, cs.setIfInBounds j u, t)) := by
  have hb := S.box _ (List.mem_of_getElem? h)
  have hi : i < B.length := (List.getElem?_eq_some_iff.1 h).1
  have hm : (B.set i (g, cs.setIfInBounds j u, t)).map (·.1) = B.map (·.1) := by
    apply List.ext_getElem?
    intro q
    rw [List.getElem?_map, List.getElem?_map, List.getElem?_set]
    split
    · rename_i e
      subst e
      first | (rw [if_pos hi, h]; rfl) | (rw [h]; rfl)
    · rfl
  have nv : no32 v = true := by
    have := hb.2.2
    rw [List.all_eq_true] at this
    exact this v (Array.mem_toList_iff.2 (Array.mem_of_getElem? hv))
  refine ⟨below_set S.below hb.2.1, fun p hp => (S.row p hp).far (S.cell i h j hv) nv u, fun b hb' => ?_, hm ▸ S.apart⟩
  obtain ⟨q, hq⟩ := List.mem_iff_getElem?.1 hb'
  rw [List.getElem?_set] at hq
  split at hq
  · rename_i e
    subst e
    first | (rw [if_pos hi] at hq; cases hq) | cases hq
    exact ⟨blk_put hb.1 j u rfl, hb.2.1, set_all hb.2.2 hu⟩
  · rename_i e
    have hbq := S.box _ (List.mem_of_getElem? hq)
    refine ⟨blk_far hbq.1 ?_ u, hbq.2⟩
    intro e'
    have h1 : (B.map (·.1))[q]? = some b.1 := by rw [List.getElem?_map, hq]; rfl
    have h2 : (B.map (·.1))[i]? = some g := by rw [List.getElem?_map, h]; rfl
    have hq' : q < (B.map (·.1)).length := (List.getElem?_eq_some_iff.1 h1).1
    have := (List.getElem?_inj hq' S.apart (j := i)).1 (by rw [h1, h2, e'])
    omega
theorem St.put2 {g : Nat} {cs : Array Value} {t : TypeId} (S : St w0 w R B) (i : Nat) (h : B[i]? = some (g, cs, t)) (j : Nat) {v v' u u' : Value} (hv : cs[j]? = some v) (hv' : cs[j + 1]? = some v') (hu : no32 u = true) (hu' : no32 u' = true) :
    St w0 ((w.setCell ⟨g, j, none⟩ u).setCell ⟨g, j + 1, none⟩ u') R (B.set i (g, (cs.setIfInBounds j u).setIfInBounds (j + 1) u', t)) := by
  have hi : i < B.length := (List.getElem?_eq_some_iff.1 h).1
  have S1 := S.put i h j hv hu
  have S2 := S1.put i (g := g) (cs := cs.setIfInBounds j u) (t := t) (by rw [List.getElem?_set, if_pos rfl, if_pos hi]) (j + 1) (v := v') (by rw [Array.getElem?_setIfInBounds, if_neg (by omega)]; exact hv') hu'
  rwa [List.set_set] at S2
end
section
variable {P : Program} {ops : Array Oper} {rest : List Oper} {o : Oper} {a : Act} {Q : Exit → Act → World → Prop} {w0 w W : World} {R : List (Option Addr × Nat × List Int)} {B : List (Nat × Array Value × TypeId)}
/-- A variable in memory. -/
theorem ev_box (N : Tmp) (hd : o.dst = some N) (S : St w0 W R B) (hgd : o.guard = none) (cs : Array Value) (t : TypeId)
    (hrun : (execOp a.eval o).run P W = .ok (.value (.pointer (some ⟨W.heap.size, 0, none⟩))) (W.alloc (.cells cs t (0, 0)))) (hn : cs.toList.all no32 = true)
    (h : ∀ g w1, St w0 w1 R ((g, cs, t) :: B) → wpList P ops Q rest (a.put o.dst (.pointer (some ⟨g, 0, none⟩))) w1) : wpList P ops Q (o :: rest) a W :=
  box_event hgd hd hrun fun g hg w1 h1 hb => h g w1 (S.new hn hg h1 hb)
/-- A literal of limbs. -/
theorem ev_lit (N : Tmp) (hd : o.dst = some N) (S : St w0 W R B) (hgd : o.guard = none) (e : TypeId) (xs : List Int) (hm : xs.length ≤ 9223372036854775807)
    (hrun : (execOp a.eval o).run P W = .ok (.value (.slice (some ⟨W.heap.size, 0, none⟩) xs.length xs.length)) (W.alloc (.cells (xs.map (Value.int .u32)).toArray e)))
    (h : ∀ A c w1, St w0 w1 ((A, c, xs) :: R) B → wpList P ops Q rest (a.put o.dst (.slice A xs.length c)) w1) : wpList P ops Q (o :: rest) a W := by
  refine Kd.event_run hgd hrun (h _ _ _ ((S.step (below_alloc (Below.refl _ _) _)).add ⟨Nat.le_refl _, Kd.C_of_reads (d := (0 : Int)) ⟨rfl, hm, fun _ => ⟨_, rfl, fun j hj => ?_⟩⟩⟩))
  rw [show (⟨W.heap.size, 0, none⟩ : Addr).add j = ⟨W.heap.size, 0 + j, none⟩ from by simp [Addr.add]; exact fun h => h.symm, World.cell?_alloc_new]
  simp [List.getD, hj]
/-- Stores into a variable in memory. -/
theorem ev_put2 {t : TypeId} {p : Tmp} {v : Operand} (ho : o.op = .store t (.tmp p) v) (S : St w0 W R B) (hgd : o.guard = none) (hN : o.dst = none) (i : Nat) {g : Nat} {cs : Array Value} {ty : TypeId} (hi : B[i]? = some (g, cs, ty)) (j : Nat) {x x' : Value} (u u' : Value)
    (hx : cs[j]? = some x) (hx' : cs[j + 1]? = some x') (hu : no32 u = true) (hu' : no32 u' = true)
    (hrun : (execOp a.eval o).run P W = .ok .skip ((W.setCell ⟨g, j, none⟩ u).setCell ⟨g, j + 1, none⟩ u'))
    (h : ∀ w1, St w0 w1 R (B.set i (g, (cs.setIfInBounds j u).setIfInBounds (j + 1) u', ty)) → wpList P ops Q rest a w1) : wpList P ops Q (o :: rest) a W :=
  store_event hgd ho hN hrun fun w' e => h w' (e ▸ S.put2 i hi j hx hx' hu hu')
theorem ev_put1 {t : TypeId} {p : Tmp} {v : Operand} (ho : o.op = .store t (.tmp p) v) (S : St w0 W R B) (hgd : o.guard = none) (hN : o.dst = none) (i : Nat) {g : Nat} {cs : Array Value} {ty : TypeId} (hi : B[i]? = some (g, cs, ty)) (j : Nat) {x : Value} (u : Value)
    (hx : cs[j]? = some x) (hu : no32 u = true) (hrun : (execOp a.eval o).run P W = .ok .skip (W.setCell ⟨g, j, none⟩ u))
    (h : ∀ w1, St w0 w1 R (B.set i (g, cs.setIfInBounds j u, ty)) → wpList P ops Q rest a w1) : wpList P ops Q (o :: rest) a W :=
  store_event hgd ho hN hrun fun w' e => h w' (e ▸ S.put i hi j hx hu)
end
section
variable {P : Program} {ops : Array Oper} {oi : Oper} {a : Act} {Q : Exit → Act → World → Prop} {K : Act → World → Prop} {w0 W : World} {R : List (Option Addr × Nat × List Int)} {B : List (Nat × Array Value × TypeId)}
theorem dr_box (N : Option Tmp) (S : St w0 W R B) (hw : Region.wanted oi (yielded ops a.tmps) = true) (hN : oi.dst = N) (cs : Array Value) (t : TypeId)
    (hrun : (execOp a.eval oi).run P W = .ok (.value (.pointer (some ⟨W.heap.size, 0, none⟩))) (W.alloc (.cells cs t (0, 0)))) (hn : cs.toList.all no32 = true)
    (h : ∀ g w1, St w0 w1 R ((g, cs, t) :: B) → K (a.put N (.pointer (some ⟨g, 0, none⟩))) w1) : if Region.wanted oi (yielded ops a.tmps) = true then Oper.wp P oi a W K Q else K (a.put N undef) W :=
  value_ hw hN hrun (h _ _ (S.new hn rfl (blk_new W _) (below_alloc (Below.refl _ _) _)))
theorem dr_lit (N : Option Tmp) (S : St w0 W R B) (hw : Region.wanted oi (yielded ops a.tmps) = true) (hN : oi.dst = N) (e : TypeId) (xs : List Int) (hm : xs.length ≤ 9223372036854775807)
    (hrun : (execOp a.eval oi).run P W = .ok (.value (.slice (some ⟨W.heap.size, 0, none⟩) xs.length xs.length)) (W.alloc (.cells (xs.map (Value.int .u32)).toArray e)))
    (h : ∀ A c w1, St w0 w1 ((A, c, xs) :: R) B → K (a.put N (.slice A xs.length c)) w1) : if Region.wanted oi (yielded ops a.tmps) = true then Oper.wp P oi a W K Q else K (a.put N undef) W := by
  refine value_ hw hN hrun (h _ _ _ ((S.step (below_alloc (Below.refl _ _) _)).add ⟨Nat.le_refl _, Kd.C_of_reads (d := (0 : Int)) ⟨rfl, hm, fun _ => ⟨_, rfl, fun j hj => ?_⟩⟩⟩))
  rw [show (⟨W.heap.size, 0, none⟩ : Addr).add j = ⟨W.heap.size, 0 + j, none⟩ from by simp [Addr.add]; exact fun h => h.symm, World.cell?_alloc_new]
  simp [List.getD, hj]
theorem dr_put2 (S : St w0 W R B) (hw : Region.wanted oi (yielded ops a.tmps) = true) (hN : oi.dst = none) (i : Nat) {g : Nat} {cs : Array Value} {ty : TypeId} (hi : B[i]? = some (g, cs, ty)) (j : Nat) {x x' : Value} (u u' : Value)
    (hx : cs[j]? = some x) (hx' : cs[j + 1]? = some x') (hu : no32 u = true) (hu' : no32 u' = true)
    (hrun : (execOp a.eval oi).run P W = .ok .skip ((W.setCell ⟨g, j, none⟩ u).setCell ⟨g, j + 1, none⟩ u'))
    (h : ∀ w1, St w0 w1 R (B.set i (g, (cs.setIfInBounds j u).setIfInBounds (j + 1) u', ty)) → K a w1) : if Region.wanted oi (yielded ops a.tmps) = true then Oper.wp P oi a W K Q else K (a.put none undef) W :=
  skip_ hw hN hrun (h _ (S.put2 i hi j hx hx' hu hu'))
end
/-! ### Steps of a walk -/
section
variable {P : Program} {ops : Array Oper} {rest : List Oper} {o : Oper} {a : Act} {Q : Exit → Act → World → Prop} {W : World}
theorem gate_d {N : Tmp} {p : Prop} (_ : p) (_hN : o.dst = some N) (h : wpList P ops Q (o :: rest) a W) : wpList P ops Q (o :: rest) a W := h
theorem gate_w {c : Code} {p : Prop} (_ : p) (h : c.wp P Q a W) : c.wp P Q a W := h
/-- A piece of code that draws: what follows is shown once. -/
theorem draw_cut {c : Code} {M : Act → World → Prop} (h1 : c.wp P (fun e a w => match e with | .normal => M a w | _ => False) a W) (h2 : ∀ a w, M a w → Q .normal a w) : c.wp P Q a W :=
  wp_mono h1 (fun e a w h => by cases e <;> first | exact h2 a w h | exact h.elim)
/-- A call of a function that a slot holds. -/
theorem goesV_ {oi : Oper} {w : World} (N : Option Tmp) (hd : oi.dst = N) (hg : oi.guard = none) {f : FuncId} {fn : Func} {x : Operand} {as : Array Operand} {ts : Array TypeId} (hf : P.funcs[f]? = some fn) (hname : (fn.name == "runtime.NumGoroutine") = false) (hb : fn.body.isSome = true) (args : Array Value)
    (hop : oi.op = .call { callee := .value x, args := as, argTypes := ts }) (hx : a.eval x = .func (.func f) #[] #[]) (hargs : as.map a.eval = args)
    (h : Calls P f args w fun e w' => ∃ v, e = .returned v ∧ wpList P ops Q rest (a.put N v) w') : wpList P ops Q (oi :: rest) a w := by
  refine wpList_plain hg fun K hK => ?_
  have he := enters_ hf hname hb args w
  have hrun : (execOp a.eval oi).run P w = .ok (.enter f args) w := by
    unfold execOp
    simp [hop, resolve, Deferred.ofValue, invoke, hx, hargs, he]
  unfold Oper.wp
  rw [hrun, Oper.upon_enter]
  refine h.mono fun e w'' hh => ?_
  obtain ⟨v, rfl, hk⟩ := hh
  subst hd
  exact hK _ _ hk
theorem gate_s {t : TypeId} {q : Tmp} {v : Operand} {p : Prop} (_ : p) (_ho : o.op = .store t (.tmp q) v) (h : wpList P ops Q (o :: rest) a W) : wpList P ops Q (o :: rest) a W := h
end
section
variable {α β : Type} {A B : Option β} {r : β} {G : Prop}
theorem w_eq {a b : Int} (h1 : (a == b) = true → (a != b) = false → A = some r → G) (h2 : (a == b) = false → (a != b) = true → B = some r → G) : (if a = b then A else B) = some r → G := by
  intro H
  by_cases c : a = b
  · exact h1 (beq_iff_eq.2 c) (bne_eq_false_iff_eq.2 c) (by rwa [if_pos c] at H)
  · exact h2 (beq_eq_false_iff_ne.2 c) (bne_iff_ne.2 c) (by rwa [if_neg c] at H)
theorem w_eqs {γ : Type} [BEq γ] [LawfulBEq γ] [DecidableEq γ] {a b : γ} (h1 : (a == b) = true → (a != b) = false → A = some r → G) (h2 : (a == b) = false → (a != b) = true → B = some r → G) : (if a = b then A else B) = some r → G := by
  intro H
  by_cases c : a = b
  · exact h1 (beq_iff_eq.2 c) (bne_eq_false_iff_eq.2 c) (by rwa [if_pos c] at H)
  · exact h2 (beq_eq_false_iff_ne.2 c) (bne_iff_ne.2 c) (by rwa [if_neg c] at H)
theorem w_len0 {l : List Int} (h1 : ((l.length : Int) == 0) = true → ((l.length : Int) != 0) = false → l = [] → A = some r → G) (h2 : ((l.length : Int) == 0) = false → ((l.length : Int) != 0) = true → ¬ l = [] → B = some r → G) : (if (l.length : Int) = 0 then A else B) = some r → G := by
  intro H
  by_cases c : (l.length : Int) = 0
  · exact h1 (beq_iff_eq.2 c) (bne_eq_false_iff_eq.2 c) (List.eq_nil_of_length_eq_zero (by omega)) (by rwa [if_pos c] at H)
  · exact h2 (beq_eq_false_iff_ne.2 c) (bne_iff_ne.2 c) (fun e => c (by rw [e]; rfl)) (by rwa [if_neg c] at H)
theorem w_len1 {l : List Int} {m : Int} (h1 : ((l.length : Int) == m) = true → ((l.length : Int) != m) = false → A = some r → G) (h2 : ((l.length : Int) == m) = false → ((l.length : Int) != m) = true → B = some r → G) : (if (l.length : Int) = m then A else B) = some r → G := w_eq h1 h2
theorem w_lt {a b : Int} (h1 : decide (a < b) = true → A = some r → G) (h2 : decide (a < b) = false → B = some r → G) : (if a < b then A else B) = some r → G := by
  intro H
  by_cases c : a < b
  · exact h1 (decide_eq_true c) (by rwa [if_pos c] at H)
  · exact h2 (decide_eq_false c) (by rwa [if_neg c] at H)
theorem w_le {a b : Int} (h1 : decide (a ≤ b) = true → A = some r → G) (h2 : decide (a ≤ b) = false → B = some r → G) : (if a ≤ b then A else B) = some r → G := by
  intro H
  by_cases c : a ≤ b
  · exact h1 (decide_eq_true c) (by rwa [if_pos c] at H)
  · exact h2 (decide_eq_false c) (by rwa [if_neg c] at H)
theorem w_ltl (m : Nat) {b : Int} {n : Nat} (e : b = (m : Int)) (h1 : decide (b < (n : Int)) = true → decide (m < n) = true → A = some r → G) (h2 : decide (b < (n : Int)) = false → decide (m < n) = false → B = some r → G) : (if b < (n : Int) then A else B) = some r → G :=
  w_lt (fun c => h1 c (decide_eq_true (by have := of_decide_eq_true c; omega))) (fun c => h2 c (decide_eq_false (by have := of_decide_eq_false c; omega)))
theorem w_ltr (n : Nat) {b : Int} {m : Nat} (e : b = (n : Int)) (h1 : decide ((m : Int) < b) = true → decide (m < n) = true → A = some r → G) (h2 : decide ((m : Int) < b) = false → decide (m < n) = false → B = some r → G) : (if (m : Int) < b then A else B) = some r → G :=
  w_lt (fun c => h1 c (decide_eq_true (by have := of_decide_eq_true c; omega))) (fun c => h2 c (decide_eq_false (by have := of_decide_eq_false c; omega)))
theorem w_ler (n : Nat) {b : Int} {m : Nat} (e : b = (n : Int)) (h1 : decide ((m : Int) ≤ b) = true → decide (m ≤ n) = true → A = some r → G) (h2 : decide ((m : Int) ≤ b) = false → decide (m ≤ n) = false → B = some r → G) : (if (m : Int) ≤ b then A else B) = some r → G :=
  w_le (fun c => h1 c (decide_eq_true (by have := of_decide_eq_true c; omega))) (fun c => h2 c (decide_eq_false (by have := of_decide_eq_false c; omega)))
theorem w_lel (m : Nat) {b : Int} {n : Nat} (e : b = (m : Int)) (h1 : decide (b ≤ (n : Int)) = true → decide (m ≤ n) = true → A = some r → G) (h2 : decide (b ≤ (n : Int)) = false → decide (m ≤ n) = false → B = some r → G) : (if b ≤ (n : Int) then A else B) = some r → G :=
  w_le (fun c => h1 c (decide_eq_true (by have := of_decide_eq_true c; omega))) (fun c => h2 c (decide_eq_false (by have := of_decide_eq_false c; omega)))
theorem w_b {b : Bool} (h1 : b = true → ¬ b = false → A = some r → G) (h2 : b = false → ¬ b = true → B = some r → G) : (if b = true then A else B) = some r → G := by
  intro H
  cases b with
  | true => exact h1 rfl (by decide) (by simpa using H)
  | false => exact h2 rfl (by decide) (by simpa using H)
theorem w_bc {b : Bool} {G : Bool → Prop} (h1 : G true) (h2 : G false) : G b := by cases b; exact h2; exact h1
theorem w_mx {a b : Int} {f : Int → Option β} (h : ∀ j, max a b = j → f j = some r → G) : ((some (mx a b)).bind f) = some r → G := fun H => h _ (by unfold mx; omega) H
theorem w_size {n : Nat} (h : (n ≤ 9223372036854775807) = True → (9223372036854775807 < n) = False → A = some r → G) : (if n ≤ 9223372036854775807 then A else none) = some r → G := by
  intro H
  by_cases c : n ≤ 9223372036854775807
  · exact h (eq_true c) (eq_false (Nat.not_lt.2 c)) (by rwa [if_pos c] at H)
  · rw [if_neg c] at H
    cases H
end
end Go.Proofs.YtecbbenfcepohaaDoor.RW
