/- The evaluator's operations and the model's: each of them. No condition. -/
import Derived.Test.YtmbofpmjckjceaaDoorE8
import Derived.Laws.BytesString
import Derived.MapKept
namespace Go.Proofs.YtmbofpmjckjceaaDoor.E
open Go Go.RowKit Go.MapKept
set_option linter.unusedVariables false
set_option linter.unusedSimpArgs false
section
variable {base : Nat} {μ : Mp} {H H' : Mem} {w : World} {P : Program}
theorem bytesOf_eq : ∀ (vs : List Value) (ns : List Int), bytesOf vs = some ns → vs = ns.map (Value.int .u8)
  | [], ns, h => by simp [bytesOf] at h; subst h; rfl
  | v :: vs, ns, h => by
    unfold bytesOf at h
    split at h
    · rename_i e; cases e
    · rename_i n rest e
      cases e
      cases hb : bytesOf vs with
      | none => simp [hb] at h
      | some l' => simp [hb] at h; subst h; rw [bytesOf_eq vs l' hb]; rfl
    · cases h
theorem ints_flat (ns : List Int) (k : IntKind) : (ns.map (Value.int k)).all (flat depth) = true := by
  rw [List.all_eq_true]; intro v hv; obtain ⟨n, _, rfl⟩ := List.mem_map.1 hv; rfl
theorem convV_ok (R : Rl base μ H w) {s d : TypeId} {x x' v : Value} (hx : VR μ x x') (h : convV P H s d x = some v) : ∃ v', (convert s d x').run P w = .ok v' w ∧ VR μ v v' := by
  unfold convV at h
  split at h
  · rename_i hf
    rw [flat_eq depth hf hx]
    exact ⟨v, (pureV_ok h w).1, VR.of_flat μ depth (pureV_ok h w).2⟩
  · split at h
    · rename_i e a len c hs hd _
      split at h
      · rename_i he
        cases hr : rd H a.block a.off len with
        | none => simp [hr] at h
        | some cs =>
          simp only [hr, Option.bind_some] at h
          cases hb : bytesOf cs with
          | none => simp [hb] at h
          | some ns =>
            simp [hb] at h
            subst h
            have hcs := bytesOf_eq cs ns hb
            have key : ∃ A c', x' = .slice (some A) len c' ∧ (loadCells A len).run P w = .ok (ns.map (Value.int .u8)).toArray w := by
              have gen : ∀ m, μ a.block = some m → (loadCells (m.addr a.off) len).run P w = .ok (ns.map (Value.int .u8)).toArray w := fun m hm => by
                obtain ⟨cs', h1, h2⟩ := loadCells_ok (P := P) R hm hr
                rw [h2, hcs] at *
                rw [flats_eq h1 (ints_flat ns .u8)]
              generalize hq : len = q at hx
              generalize c = q2 at hx
              cases hx with
              | sliceE hs hc hm => subst hq; exact ⟨_, _, rfl, gen _ hm⟩
              | sliceO hs hm hl hn => subst hq; exact ⟨_, _, rfl, gen _ hm⟩
              | sliceE0 hs hm =>
                subst hq
                refine ⟨_, _, rfl, ?_⟩
                obtain ⟨b, _, _, e0⟩ := rd_some hr
                have : ns = [] := by simp at e0; rw [e0] at hcs; cases ns with | nil => rfl | cons _ _ => simp at hcs
                subst this
                rfl
              | sliceO0 hs hm hl =>
                subst hq
                refine ⟨_, _, rfl, ?_⟩
                obtain ⟨b, _, _, e0⟩ := rd_some hr
                have : ns = [] := by simp at e0; rw [e0] at hcs; cases ns with | nil => rfl | cons _ _ => simp at hcs
                subst this
                rfl
            obtain ⟨A, c', rfl, hl⟩ := key
            exact ⟨_, by rw [run_convert_bytes_string w s d e (some A) len c' hs he hd, run_bytesToString w A len c' ns hl], .string _⟩
      · cases h
    · cases h
theorem keyFlat_eq {kd : TypeDesc} {k k' : Value} (h : keyFlat kd k = true) (r : VR μ k k') : k' = k ∧ IsKey kd k := by
  cases kd <;> cases k <;> simp [keyFlat] at h
  · exact ⟨r.int', by simp [IsKey, h]⟩
  · exact ⟨r.str, trivial⟩
theorem findNow_rel {kd : TypeDesc} {k : Value} : ∀ (es es' : List MapEntry) (i : Nat), es.length = es'.length → es.all (fun e => keyFlat kd e.key) = true →
    (∀ (i : Nat) e e', es[i]? = some e → es'[i]? = some e' → VR μ e.key e'.key ∧ VR μ e.val e'.val ∧ e.born = e'.born) →
    (Instr.findNow kd k es i = some none → Instr.findNow kd k es' i = some none) ∧ (∀ j v, Instr.findNow kd k es i = some (some (j, v)) → ∃ v', Instr.findNow kd k es' i = some (some (j, v')) ∧ VR μ v v')
  | [], es', i, hl, _, _ => by
    have : es' = [] := List.length_eq_zero_iff.1 hl.symm
    subst this
    exact ⟨fun h => h, fun j v h => by simp [Instr.findNow] at h⟩
  | e :: es, es', i, hl, hk, hv => by
    cases es' with
    | nil => simp at hl
    | cons e' es' =>
      simp only [List.all_cons, Bool.and_eq_true] at hk
      obtain ⟨a, b, _⟩ := hv 0 e e' rfl rfl
      have hke := (keyFlat_eq hk.1 a).1
      obtain ⟨ih1, ih2⟩ := findNow_rel es es' (i + 1) (by simpa using hl) hk.2 (fun q x y hx hy => hv (q + 1) x y (by simpa using hx) (by simpa using hy))
      simp only [Instr.findNow, hke]
      cases Instr.sameNow kd k e.key with
      | none => exact ⟨fun h => by simp at h, fun j v h => by simp at h⟩
      | some t =>
        cases t with
        | true => exact ⟨fun h => by simp at h, fun j v h => by simp at h; obtain ⟨rfl, rfl⟩ := h; exact ⟨_, rfl, b⟩⟩
        | false => exact ⟨ih1, ih2⟩
/-- What an operation comes to. -/
def OpR (base : Nat) (μ : Mp) (H : Mem) (w : World) (re : Re) (H' : Mem) (r : Result Next) : Prop :=
  match re with
  | .val v => ∃ μ' v' w', r = .ok (.value v') w' ∧ Stp base μ H w μ' H' w' ∧ VR μ' v v'
  | .skip => ∃ μ' w', r = .ok .skip w' ∧ Stp base μ H w μ' H' w'
  | .enter f args => H' = H ∧ ∃ args', r = .ok (.enter f args') w ∧ VRa μ args args'
theorem OpR.same (R : Rl base μ H w) {v v' : Value} {r : Result Next} (h : r = .ok (.value v') w) (hv : VR μ v v') : OpR base μ H w (.val v) H r := ⟨μ, v', w, h, .refl R, hv⟩
structure EnvOk (E : Env) : Prop where
  x : ∀ f g args v, E.X f = some g → g args = some v → args.toList.all (flat depth) = true → ∀ w, (callFunc f args).run E.P w = .ok (.value v) w ∧ flat depth v = true
  name : ∀ (f : FuncId) (fn : Func), E.P.funcs[f]? = some fn → fn.body.isSome = true → (fn.name == "runtime.NumGoroutine") = false
def okOp (nt : Nat) (o : Oper) : Bool := (match o.dst with | some d => decide (d < nt) | none => true) && o.op.operands.toList.all okO
theorem VRs.map {α : Type} {l : List α} {f g : α → Value} (h : ∀ x ∈ l, VR μ (f x) (g x)) : VRs μ (l.map f) (l.map g) := by
  induction l with
  | nil => exact .nil μ
  | cons x l ih => exact .cons (h x (.head _)) (ih fun y hy => h y (.tail _ hy))
theorem zero_ok {z : Value} {t : TypeId} (h : tzero P t = some z) : VR μ z z := VR.of_flat μ depth (run_zero' h (default : World)).2
theorem addr_spot {a : Addr} (h : a.spot = none) : (⟨a.block, a.off, none⟩ : Addr) = a := by cases a; simp_all
theorem upd_addr0 (R : Rl base μ H w) (m : MA) (hm : m.at_.spot = none) (h0 : m.at_.off = 0) : VR (upd μ H.n m) (addrOf H.n 0) (.pointer (some m.at_)) := by
  have h : VR (upd μ H.n m) (.pointer (some ⟨H.n, 0, none⟩)) (.pointer (some (m.addr 0))) := .ptr (a := ⟨H.n, 0, none⟩) rfl (upd_same μ H.n m)
  have e : m.addr 0 = m.at_ := by
    unfold MA.addr
    obtain ⟨⟨b, o, s⟩, l, e⟩ := m
    simp at hm h0
    simp [hm, h0]
  rw [e] at h
  exact h
theorem new_ok (R : Rl base μ H w) {cs cs' : List Value} (e : Nat) (ty : TypeId) (h : VRs μ cs cs') :
    Stp base μ H w (upd μ H.n ⟨⟨w.heap.size, 0, none⟩, cs'.length, e⟩) (H.new cs e) (w.alloc (.cells cs'.toArray ty)) := by
  have := R.new e ty [] h
  simpa using this
theorem val_run {s : Sem Value} {v : Value} {w w' : World} (h : s.run P w = .ok v w') : (do pure (Next.value (← s)) : Sem Next).run P w = .ok (.value v) w' := by rw [Sem.run_bind, h]; rfl
theorem run_buildSlice {t el : TypeId} {len e : Nat} {z : Value} {ps : List (Nat × Value)} {cs' : Array Value} (hu : P.underlying t = some (.slice el)) (he : tsz P el = some e) (hz : tzero P el = some z) (hlen : len * e ≤ 2 ^ 24)
    (h1 : Instr.fill (fun i => some (i * e, e)) ((Array.range (len * e)).map fun i => (if len * e = 0 then #[] else z.cells)[i % (if len * e = 0 then #[] else z.cells).size]!) ps = some cs') :
    (Instr.buildSlice t len ps.toArray).run P w = .ok (.slice (some ⟨w.heap.size, 0, none⟩) len len) (w.alloc (.cells cs' el)) := by
  have hgt : ¬ (len * e > 2 ^ 24) := by omega
  by_cases h0 : len * e = 0
  · simp only [h0, if_true] at h1
    have hgt0 : ¬ ((0 : Nat) > 2 ^ 24) := by decide
    simp only [Instr.buildSlice, Sem.run_bind, run_underlying hu, Result.andThen_ok, run_size' he, h0, hgt0, if_false, if_true, Sem.run_pure, h1, newRow, run_newObj_alloc]
  · simp only [h0, if_false] at h1
    simp only [Instr.buildSlice, Sem.run_bind, run_underlying hu, Result.andThen_ok, run_size' he, hgt, if_false, h0, Sem.run_pure, (run_zero' hz w).1, h1, newRow, run_newObj_alloc]
theorem eqNil_ok {t : TypeId} {x y x' y' : Value} {b : Bool} (xo yo : Operand) (hx : VR μ x x') (hy : VR μ y y') (h : eqNil P t x y = some b) (w : World) :
    (do eqGuard .eql t xo yo x' y'; binOp .eql t x' y' : Sem Value).run P w = .ok (.bool b) w ∧ (do eqGuard .neq t xo yo x' y'; binOp .neq t x' y' : Sem Value).run P w = .ok (.bool (!b)) w := by
  have fin : ∀ (u v : Value), (eqGuard .eql t xo yo u v = pure ()) → (eqGuard .neq t xo yo u v = pure ()) → (binOp .eql t u v = do pure (.bool (← Op.equal t u v))) → (binOp .neq t u v = do pure (.bool (!(← Op.equal t u v)))) →
      (Op.equal t u v).run P w = .ok b w → (do eqGuard .eql t xo yo u v; binOp .eql t u v : Sem Value).run P w = .ok (.bool b) w ∧ (do eqGuard .neq t xo yo u v; binOp .neq t u v : Sem Value).run P w = .ok (.bool (!b)) w := by
    intro u v h1 h2 h3 h4 h5
    rw [h1, h2, h3, h4]
    constructor <;> simp only [Sem.run_bind, Sem.run_pure, Result.andThen_ok, h5]
  obtain ⟨dd, eq1⟩ : ∃ d, ∀ (u v : Value), Op.equal t u v = Op.equalIn (d + 1) t u v := ⟨9999, fun _ _ => rfl⟩
  unfold eqNil at h
  split at h
  · rename_i e n c bs n' c' hu
    cases h
    rw [hx.slice_nil]
    obtain ⟨bs', c'', rfl⟩ := hy.slice_cases
    have hn : bs'.isNone = bs.isNone := by cases hy <;> rfl
    refine fin _ _ rfl rfl rfl rfl ?_
    rw [eq1]
    simp only [Op.equalIn, Sem.run_bind, run_underlying hu, Result.andThen_ok, Sem.run_pure, hn]
  · rename_i e bs n c n' c' hne hu
    cases h
    rw [hy.slice_nil]
    obtain ⟨bs', c'', rfl⟩ := hx.slice_cases
    cases bs with
    | none => exact absurd rfl hne
    | some q =>
      have hn : ∃ q', bs' = some q' := by cases hx <;> exact ⟨_, rfl⟩
      obtain ⟨q', rfl⟩ := hn
      refine fin _ _ rfl rfl rfl rfl ?_
      rw [eq1]
      simp only [Op.equalIn, Sem.run_bind, run_underlying hu, Result.andThen_ok, Sem.run_pure]
  · rename_i e q hu
    cases h
    have : x' = .pointer none := by cases hx; rfl
    subst this
    cases q with
    | none =>
      have : y' = .pointer none := by cases hy; rfl
      subst this
      refine fin _ _ rfl rfl rfl rfl ?_
      rw [eq1]
      simp only [Op.equalIn, Sem.run_bind, run_underlying hu, Result.andThen_ok, Sem.run_pure]
    | some a =>
      obtain ⟨_, m, _, rfl⟩ := hy.ptr_some
      refine fin _ _ rfl rfl rfl rfl ?_
      rw [eq1]
      simp only [Op.equalIn, Sem.run_bind, run_underlying hu, Result.andThen_ok, Sem.run_pure]
      rfl
  · rename_i e q hne hu
    cases h
    have : y' = .pointer none := by cases hy; rfl
    subst this
    cases q with
    | none => exact absurd rfl hne
    | some a =>
      obtain ⟨_, m, _, rfl⟩ := hx.ptr_some
      refine fin _ _ rfl rfl rfl rfl ?_
      rw [eq1]
      simp only [Op.equalIn, Sem.run_bind, run_underlying hu, Result.andThen_ok, Sem.run_pure]
  · rename_i a1 a2 a3 f p q hu
    cases h
    obtain ⟨p', q', rfl, _, _⟩ := hx.fn
    have : y' = .nilFunc := by cases hy; rfl
    subst this
    refine fin _ _ rfl rfl rfl rfl ?_
    rw [eq1]
    simp only [Op.equalIn, Sem.run_bind, run_underlying hu, Result.andThen_ok, Sem.run_pure]
  · rename_i a1 a2 a3 f p q hu
    cases h
    obtain ⟨p', q', rfl, _, _⟩ := hy.fn
    have : x' = .nilFunc := by cases hx; rfl
    subst this
    refine fin _ _ rfl rfl rfl rfl ?_
    rw [eq1]
    simp only [Op.equalIn, Sem.run_bind, run_underlying hu, Result.andThen_ok, Sem.run_pure]
  · rename_i a1 a2 a3 hu
    cases h
    have : x' = .nilFunc := by cases hx; rfl
    subst this
    have : y' = .nilFunc := by cases hy; rfl
    subst this
    refine fin _ _ rfl rfl rfl rfl ?_
    rw [eq1]
    simp only [Op.equalIn, Sem.run_bind, run_underlying hu, Result.andThen_ok, Sem.run_pure]
  · cases h
theorem lookup_run {t kt el : TypeId} {kd : TypeDesc} {x' k z : Value} {ok : Bool} {es' : Array MapEntry} (hu : P.underlying t = some (.map kt el)) (hkd : P.underlying kt = some kd) (hk : IsKey kd k) (hz : tzero P el = some z)
    (hx : (x' = .map none ∧ es' = #[]) ∨ ∃ r c, x' = .map (some r) ∧ w.heap[r]? = some (.map es' c)) {f : Option (Nat × Value)} (hf : Instr.findNow kd k es'.toList 0 = some f) :
    (Instr.lookup t x' k ok).run P w = .ok (if ok then .tuple #[(match f with | some (_, v) => v | none => z), .bool f.isSome] else (match f with | some (_, v) => v | none => z)) w := by
  have hck := fun b => run_checkKey (P := P) (w := w) hkd hk b 9999
  have hzr := (run_zero' hz w).1
  generalize hten : (10000 : Nat) = ten at *
  rcases hx with ⟨rfl, rfl⟩ | ⟨r, c, rfl, hr⟩
  · simp only [Instr.lookup, Sem.run_bind, run_underlying hu, Result.andThen_ok, Sem.run_pure]
    erw [hck]
    simp only [Result.andThen_ok, run_findKey hkd hf]
    cases f with
    | none => simp [hzr]
    | some p => obtain ⟨j, v⟩ := p; simp
  · simp only [Instr.lookup, Sem.run_bind, run_underlying hu, Result.andThen_ok, Sem.run_pure, Go.MapKept.run_getObj_map hr]
    erw [hck]
    simp only [Result.andThen_ok, run_findKey hkd hf]
    cases f with
    | none => simp [hzr]
    | some p => obtain ⟨j, v⟩ := p; simp
theorem key_same {kd : TypeDesc} {k : Value} (h : keyFlat kd k = true) (n : Nat) : Instr.sameBits (n + 1) k k = true := by
  cases kd <;> cases k <;> simp [keyFlat] at h
  · simp [Instr.sameBits]
  · simp [Instr.sameBits, bytes_beq]
theorem mapEntry_ok (R : Rl base μ H w) {t kt el : TypeId} {kd : TypeDesc} {r c : Nat} {m' k k' z : Value} {es : List MapEntry} {re : Re} (hu : P.underlying t = some (.map kt el)) (hkd : P.underlying kt = some kd) (hz : tzero P el = some z)
    (hm' : VR μ (.map (some r)) m') (hk : VR μ k k') (hg : H.getMap r = some (es, c)) (hkf : keyFlat kd k = true) (hall : es.all (fun e => keyFlat kd e.key) = true)
    (h : (match Instr.findNow kd k es 0 with
          | some (some (i, v)) =>
            match es[i]? with
            | some e => some (Re.val (.tuple #[v, goInt e.born]), H.putMap r es c)
            | none => none
          | some none => some (Re.val (.tuple #[z, goInt c]), H.putMap r (es ++ [⟨k, z, c⟩]) (c + 1))
          | none => none) = some (re, H')) :
    ∃ v, re = .val v ∧ GoesV base μ H w v H' ((Instr.mapEntry t m' k').run P w) := by
  obtain ⟨hke, hisk⟩ := keyFlat_eq hkf hk
  subst hke
  have hmm : ∃ m, μ r = some m ∧ m' = .map (some m.at_.block) := by cases hm' with | map hm => exact ⟨_, hm, rfl⟩
  obtain ⟨m, hm, rfl⟩ := hmm
  have ho := getMap_some hg
  obtain ⟨es', q1, q2, q3⟩ := (R.map r m es c hm ho).ex
  have hck := run_checkKey (P := P) (w := w) hkd hisk false 9999
  obtain ⟨f1, f2⟩ := findNow_rel (kd := kd) (k := k') es es'.toList 0 (by simpa using q2) hall (fun i e e' h1 h2 => q3 i e e' h1 (by simpa using h2))
  have hset : ∀ o : Obj, (setObj m.at_.block o).run P w = .ok () { w with heap := w.heap.setIfInBounds m.at_.block o } := fun o => Go.MapKept.run_setObj_map o q1
  split at h
  · rename_i i v hfn
    split at h
    · rename_i e hei
      cases h
      obtain ⟨v', g1, g2⟩ := f2 i v hfn
      have hil : i < es'.size := by rw [← q2]; exact (List.getElem?_eq_some_iff.1 hei).1
      have hee : es'[i]? = some es'[i] := Array.getElem?_eq_getElem hil
      obtain ⟨p1, p2, p3⟩ := q3 i e _ hei hee
      have hkk : es'[i].key = k' := by
        rcases findNow_spec hisk es'.toList 0 (fun x hx => by
          obtain ⟨j, hj⟩ := List.mem_iff_getElem?.1 hx
          have hjl : j < es.length := by rw [q2]; have := (List.getElem?_eq_some_iff.1 hj).1; simpa using this
          have hb := q3 j _ x (List.getElem?_eq_getElem hjl) (by simpa using hj)
          have hf := List.all_eq_true.1 hall _ (List.getElem_mem hjl)
          rw [(keyFlat_eq hf hb.1).1]
          exact (keyFlat_eq hf hb.1).2) with ⟨a1, _⟩ | ⟨j, e2, a1, a2, a3⟩
        · rw [g1] at a1; cases a1
        · rw [g1] at a1
          simp only [Option.some.injEq, Prod.mk.injEq] at a1
          obtain ⟨a1, _⟩ := a1
          rw [Nat.zero_add] at a1
          subst a1
          have : es'[i]? = some e2 := by simpa using a2
          rw [hee] at this
          cases this
          exact a3
      refine ⟨_, rfl, μ, .tuple #[v', goInt es'[i].born], { w with heap := w.heap.setIfInBounds m.at_.block (.map (es'.modify i fun e => { e with key := k' }) c) }, ?_, ?_, ?_⟩
      · have hsb : Instr.sameBits 10000 es'[i].key k' = true := by rw [hkk]; exact key_same hkf 9999
        have hkts : (Instr.keyThatStays es'[i].key k').run P w = .ok k' w := by
          unfold Instr.keyThatStays
          rw [if_pos hsb]
          rfl
        generalize (10000 : Nat) = ten at *
        simp only [Instr.mapEntry, Sem.run_bind, run_underlying hu, Result.andThen_ok, Go.MapKept.run_getObj_map q1]
        erw [hck]
        simp only [Result.andThen_ok, run_findKey hkd g1, Sem.run_bind, hee, Option.map_some, Option.getD_some, hkts, hset, Sem.run_pure]
      · refine R.putMap hm ho (es' := es'.modify i fun e => { e with key := k' }) (by simpa using q2) (fun j a b ha hb => ?_) rfl rfl rfl rfl
        rw [Array.getElem?_modify] at hb
        split at hb
        · rename_i hij
          subst hij
          rw [hee] at hb
          simp only [Option.map_some, Option.some.injEq] at hb
          subst hb
          obtain ⟨x1, x2, x3⟩ := q3 i a _ ha hee
          exact ⟨by rw [← hkk]; exact x1, x2, x3⟩
        · exact q3 j a b ha hb
      · refine .tuple rfl fun q x y hx hy => ?_
        match q with
        | 0 => simp at hx hy; subst hx; subst hy; exact g2
        | 1 => simp at hx hy; subst hx; subst hy; rw [p3]; exact .int _ _
        | q + 2 => simp at hx
    · cases h
  · rename_i hfn
    cases h
    refine ⟨_, rfl, μ, .tuple #[z, goInt c], { w with heap := w.heap.setIfInBounds m.at_.block (.map (es'.push ⟨k', z, c⟩) (c + 1)) }, ?_, ?_, ?_⟩
    · have hzr := (run_zero' hz w).1
      generalize (10000 : Nat) = ten at *
      simp only [Instr.mapEntry, Sem.run_bind, run_underlying hu, Result.andThen_ok, Go.MapKept.run_getObj_map q1]
      erw [hck]
      simp only [Result.andThen_ok, run_findKey hkd (f1 hfn), Sem.run_bind, hzr, hset, Sem.run_pure]
    · refine R.putMap hm ho (es' := es'.push ⟨k', z, c⟩) (by simp [q2]) (fun j a b ha hb => ?_) rfl rfl rfl rfl
      rw [Array.getElem?_push] at hb
      rw [List.getElem?_append] at ha
      by_cases hj : j < es.length
      · rw [if_pos hj] at ha
        rw [if_neg (by omega)] at hb
        exact q3 j a b ha hb
      · rw [if_neg hj] at ha
        split at hb
        · rename_i hjj
          have : j - es.length = 0 := by omega
          rw [this] at ha
          simp at ha hb
          subst ha; subst hb
          exact ⟨hk, zero_ok hz, rfl⟩
        · have := (Array.getElem?_eq_some_iff.1 hb).1; omega
    · refine .tuple rfl fun q x y hx hy => ?_
      match q with
      | 0 => simp at hx hy; subst hx; subst hy; exact zero_ok hz
      | 1 => simp at hx hy; subst hx; subst hy; exact .int _ _
      | q + 2 => simp at hx
  · cases h
theorem mapUpdate_ok (R : Rl base μ H w) {t kt el : TypeId} {kd : TypeDesc} {r c : Nat} {m' k k' x x' : Value} {es : List MapEntry} {re : Re} (hu : P.underlying t = some (.map kt el)) (hkd : P.underlying kt = some kd)
    (hm' : VR μ (.map (some r)) m') (hk : VR μ k k') (hx : VR μ x x') (hg : H.getMap r = some (es, c)) (hkf : keyFlat kd k = true) (hall : es.all (fun e => keyFlat kd e.key) = true)
    (h : (match Instr.findNow kd k es 0 with
          | some (some (i, _)) => some (Re.skip, H.putMap r (es.modify i fun e => { e with val := x }) c)
          | some none => some (Re.skip, H.putMap r (es ++ [⟨k, x, c⟩]) (c + 1))
          | none => none) = some (re, H')) :
    re = .skip ∧ ∃ w', (Instr.mapUpdate t m' k' x').run P w = .ok () w' ∧ Stp base μ H w μ H' w' := by
  obtain ⟨hke, hisk⟩ := keyFlat_eq hkf hk
  subst hke
  have hmm : ∃ m, μ r = some m ∧ m' = .map (some m.at_.block) := by cases hm' with | map hm => exact ⟨_, hm, rfl⟩
  obtain ⟨m, hm, rfl⟩ := hmm
  have ho := getMap_some hg
  obtain ⟨es', q1, q2, q3⟩ := (R.map r m es c hm ho).ex
  have hck := run_checkKey (P := P) (w := w) hkd hisk false 9999
  obtain ⟨f1, f2⟩ := findNow_rel (kd := kd) (k := k') es es'.toList 0 (by simpa using q2) hall (fun i e e' h1 h2 => q3 i e e' h1 (by simpa using h2))
  have hset : ∀ o : Obj, (setObj m.at_.block o).run P w = .ok () { w with heap := w.heap.setIfInBounds m.at_.block o } := fun o => Go.MapKept.run_setObj_map o q1
  split at h
  · rename_i i v hfn
    cases h
    obtain ⟨v', g1, g2⟩ := f2 i v hfn
    have hkeys : ∀ y ∈ es'.toList, IsKey kd y.key := fun y hy => by
      obtain ⟨j, hj⟩ := List.mem_iff_getElem?.1 hy
      have hjl : j < es.length := by rw [q2]; have := (List.getElem?_eq_some_iff.1 hj).1; simpa using this
      have hb := q3 j _ y (List.getElem?_eq_getElem hjl) (by simpa using hj)
      have hf := List.all_eq_true.1 hall _ (List.getElem_mem hjl)
      rw [(keyFlat_eq hf hb.1).1]
      exact (keyFlat_eq hf hb.1).2
    have hspec : ∃ e2, es'[i]? = some e2 ∧ e2.key = k' := by
      rcases findNow_spec hisk es'.toList 0 hkeys with ⟨a1, _⟩ | ⟨j, e2, a1, a2, a3⟩
      · rw [g1] at a1; cases a1
      · rw [g1] at a1
        simp only [Option.some.injEq, Prod.mk.injEq] at a1
        obtain ⟨a1, _⟩ := a1
        rw [Nat.zero_add] at a1
        subst a1
        exact ⟨e2, by simpa using a2, a3⟩
    obtain ⟨e2, hee, hkk⟩ := hspec
    have hil : i < es'.size := (Array.getElem?_eq_some_iff.1 hee).1
    refine ⟨rfl, { w with heap := w.heap.setIfInBounds m.at_.block (.map (es'.modify i fun e => { e with key := k', val := x' }) c) }, ?_, ?_⟩
    · have hsb : Instr.sameBits 10000 e2.key k' = true := by rw [hkk]; exact key_same hkf 9999
      have hkts : (Instr.keyThatStays e2.key k').run P w = .ok k' w := by
        unfold Instr.keyThatStays
        rw [if_pos hsb]
        rfl
      generalize (10000 : Nat) = ten at *
      simp only [Instr.mapUpdate, Sem.run_bind, run_underlying hu, Result.andThen_ok, Go.MapKept.run_getObj_map q1]
      erw [hck]
      simp only [Result.andThen_ok, run_findKey hkd g1, Sem.run_bind, hee, Option.map_some, Option.getD_some, hkts, hset]
    · refine R.putMap hm ho (es' := es'.modify i fun e => { e with key := k', val := x' }) (by simpa using q2) (fun j a b ha hb => ?_) rfl rfl rfl rfl
      rw [Array.getElem?_modify] at hb
      rw [List.getElem?_modify] at ha
      by_cases hij : i = j
      · subst hij
        have hl : i < es.length := by omega
        rw [List.getElem?_eq_getElem hl] at ha
        rw [if_pos rfl, hee] at hb
        simp at ha hb
        subst ha; subst hb
        obtain ⟨x1, x2, x3⟩ := q3 i _ _ (List.getElem?_eq_getElem hl) hee
        exact ⟨by rw [← hkk]; exact x1, hx, x3⟩
      · rw [if_neg hij] at hb
        simp only [hij, if_false, id] at ha
        simp at ha
        exact q3 j a b ha hb
  · rename_i hfn
    cases h
    refine ⟨rfl, { w with heap := w.heap.setIfInBounds m.at_.block (.map (es'.push ⟨k', x', c⟩) (c + 1)) }, ?_, ?_⟩
    · generalize (10000 : Nat) = ten at *
      simp only [Instr.mapUpdate, Sem.run_bind, run_underlying hu, Result.andThen_ok, Go.MapKept.run_getObj_map q1]
      erw [hck]
      simp only [Result.andThen_ok, run_findKey hkd (f1 hfn), Sem.run_bind, hset]
    · refine R.putMap hm ho (es' := es'.push ⟨k', x', c⟩) (by simp [q2]) (fun j a b ha hb => ?_) rfl rfl rfl rfl
      rw [Array.getElem?_push] at hb
      rw [List.getElem?_append] at ha
      by_cases hj : j < es.length
      · rw [if_pos hj] at ha
        rw [if_neg (by omega)] at hb
        exact q3 j a b ha hb
      · rw [if_neg hj] at ha
        split at hb
        · rename_i hjj
          have : j - es.length = 0 := by omega
          rw [this] at ha
          simp at ha hb
          subst ha; subst hb
          exact ⟨hk, hx, rfl⟩
        · have := (Array.getElem?_eq_some_iff.1 hb).1; omega
  · cases h
theorem findIdx_born : ∀ (es es' : List MapEntry) (b : Nat), es.map (·.born) = es'.map (·.born) → es'.findIdx? (fun e => (e.born : Int) == (b : Int)) = es.findIdx? (fun e => e.born == b)
  | [], es', b, h => by
    cases es' with
    | nil => rfl
    | cons _ _ => simp at h
  | e :: es, es', b, h => by
    cases es' with
    | nil => simp at h
    | cons e' es' =>
      simp only [List.map_cons, List.cons.injEq] at h
      simp only [List.findIdx?_cons, findIdx_born es es' b h.2, h.1]
      have : ((e'.born : Int) == (b : Int)) = (e'.born == b) := by rw [Bool.eq_iff_iff]; simp only [beq_iff_eq]; omega
      rw [this]
theorem entryStore_ok (R : Rl base μ H w) {t : TypeId} {r c born i : Nat} {m' s s' x x' : Value} {es : List MapEntry} (hm' : VR μ (.map (some r)) m') (hs : VR μ s s') (hx : VR μ x x') (hg : H.getMap r = some (es, c)) (hb : idx s = some born)
    (hi : es.findIdx? (fun e => e.born == born) = some i) : ∃ w', (Instr.entryStore t m' s' x').run P w = .ok () w' ∧ Stp base μ H w μ (H.putMap r (es.modify i fun e => { e with val := x }) c) w' := by
  have hmm : ∃ m, μ r = some m ∧ m' = .map (some m.at_.block) := by cases hm' with | map hm => exact ⟨_, hm, rfl⟩
  obtain ⟨m, hm, rfl⟩ := hmm
  have ho := getMap_some hg
  obtain ⟨es', q1, q2, q3⟩ := (R.map r m es c hm ho).ex
  obtain ⟨ks, rfl⟩ := idx_int hb
  have hs2 := hs.int'
  subst hs2
  have hset : ∀ o : Obj, (setObj m.at_.block o).run P w = .ok () { w with heap := w.heap.setIfInBounds m.at_.block o } := fun o => Go.MapKept.run_setObj_map o q1
  have hbn : es.map (·.born) = es'.toList.map (·.born) := by
    apply List.ext_getElem?
    intro j
    rw [List.getElem?_map, List.getElem?_map]
    by_cases hj : j < es.length
    · rw [List.getElem?_eq_getElem hj, List.getElem?_eq_getElem (by simpa [← q2] using hj)]
      simp only [Option.map_some]
      rw [(q3 j _ _ (List.getElem?_eq_getElem hj) (Array.getElem?_eq_getElem (by omega))).2.2]
      simp
    · rw [List.getElem?_eq_none (by omega), List.getElem?_eq_none (by simp; omega)]
  have hfi : es'.findIdx? (fun e => (e.born : Int) == (born : Int)) = some i := by
    have := findIdx_born es es'.toList born hbn
    rw [hi] at this
    cases es' with
    | mk l => simpa using this
  refine ⟨{ w with heap := w.heap.setIfInBounds m.at_.block (.map (es'.modify i fun e => { e with val := x' }) c) }, ?_, R.putMap hm ho (es' := es'.modify i fun e => { e with val := x' }) (by simpa using q2) (fun j a b ha hb => ?_) rfl rfl rfl rfl⟩
  · simp only [Instr.entryStore, Sem.run_bind, Go.MapKept.run_getObj_map q1, Result.andThen_ok, asInt, asIntOf, Sem.run_pure, hfi, hset]
  · rw [Array.getElem?_modify] at hb
    rw [List.getElem?_modify] at ha
    by_cases hij : i = j
    · subst hij
      have hl : i < es.length := by
        rcases Nat.lt_or_ge i es.length with h | h
        · exact h
        · rw [List.getElem?_eq_none h] at ha; simp at ha
      rw [List.getElem?_eq_getElem hl] at ha
      rw [if_pos rfl, Array.getElem?_eq_getElem (by omega)] at hb
      simp at ha hb
      subst ha; subst hb
      obtain ⟨x1, x2, x3⟩ := q3 i _ _ (List.getElem?_eq_getElem hl) (Array.getElem?_eq_getElem (by omega))
      exact ⟨x1, hx, x3⟩
    · rw [if_neg hij] at hb
      simp only [hij, if_false, id] at ha
      simp at ha
      exact q3 j a b ha hb
theorem inert_ok (E : Env) {T : Tr Value} {a : Act} {o : Oper} (hnt : inert o = true) (ev0 : ∀ x, x ∈ o.op.operands → VR μ (evalO T x) (a.eval x)) {re : Re} (h : opStep E T H o = some (re, H')) :
    ∃ v v', re = .val v ∧ H' = H ∧ (execOp a.eval o).run E.P w = .ok (.value v') w ∧ VR μ v v' := by
  obtain ⟨dst, op, type, pos, after, guard⟩ := o
  have ev : ∀ x, x ∈ op.operands → VR μ (evalO T x) (a.eval x) := ev0
  clear ev0
  have done : ∀ {v v' : Value} {r : Result Next}, r = .ok (.value v') w → VR μ v v' → ∃ u u', Re.val v = .val u ∧ H = H ∧ r = .ok (.value u') w ∧ VR μ u u' := fun h hv => ⟨_, _, rfl, rfl, h, hv⟩
  cases op
  all_goals first
    | (simp [inert] at hnt; done)
    | skip
  all_goals clear hnt
  all_goals simp only [opStep] at h
  case move x => cases h; exact done rfl (ev x (by simp [Op.operands]))
  case assign x => cases h; exact done rfl (ev x (by simp [Op.operands]))
  case pick c x y =>
    have hc := ev c (by simp [Op.operands])
    split at h
    · rename_i t ht
      cases h
      rw [ht] at hc
      have hc' := hc.bool'
      refine done (v' := if t then a.eval x else a.eval y) (by simp [execOp, asBool, hc']) ?_
      cases t
      · exact ev y (by simp [Op.operands])
      · exact ev x (by simp [Op.operands])
    · cases h
  case build t ps =>
    cases hb : buildV E.P t (ps.toList.map fun p => (p.1, evalO T p.2)) with
    | none => simp [hb] at h
    | some v =>
      simp [hb] at h
      obtain ⟨rfl, rfl⟩ := h
      obtain ⟨v', h1, h2⟩ := buildV_ok (P := E.P) (μ := μ) (w := w) (ps' := ps.toList.map fun p => (p.1, a.eval p.2)) (by simp) (by
        simp only [List.map_map]
        exact VRs.map fun p hp => ev p.2 (by simp [Op.operands]; exact ⟨p.1, Array.mem_toList_iff.1 hp⟩)) hb
      refine done (v' := v') ?_ h2
      have e : (ps.map fun p => (p.1, a.eval p.2)) = (ps.toList.map fun p => (p.1, a.eval p.2)).toArray := by apply Array.ext'; simp
      have h1' : (Instr.build t (ps.map fun p => (p.1, a.eval p.2))).run E.P w = .ok v' w := by rw [e]; exact h1
      simp [execOp, h1']
  case nilCheck x =>
    have hx := ev x (by simp [Op.operands])
    split at h
    · rename_i ad hv
      cases h
      rw [hv] at hx
      obtain ⟨hs, m, hm, he⟩ := hx.ptr_some
      exact done (by simp [execOp, he]; rfl) (by rw [he] at hx; exact hx)
    · rename_i f p q hv
      cases h
      rw [hv] at hx
      obtain ⟨p', q', he, h1, h2⟩ := hx.fn
      exact done (by simp [execOp, he]; rfl) (by rw [he] at hx; exact hx)
    · cases h
  case binOp bop t x y yt =>
    have hx := ev x (by simp [Op.operands])
    have hy := ev y (by simp [Op.operands])
    cases hb : binV E.P bop t x y (evalO T x) (evalO T y) with
    | none => simp [hb] at h
    | some v =>
      simp [hb] at h
      obtain ⟨rfl, rfl⟩ := h
      unfold binV at hb
      split at hb
      · rename_i hf
        simp only [Bool.and_eq_true] at hf
        rw [← flat_eq depth hf.1 hx, ← flat_eq depth hf.2 hy] at hb
        obtain ⟨h1, h2⟩ := pureV_ok hb w
        exact done (val_run h1) (VR.of_flat μ depth h2)
      · -- one of them is nil
        split at hb
        · cases hq : eqNil E.P t (evalO T x) (evalO T y) with
          | none => simp [hq] at hb
          | some b =>
            simp [hq] at hb; subst hb
            exact done (val_run (eqNil_ok x y hx hy hq w).1) (.bool _)
        · cases hq : eqNil E.P t (evalO T x) (evalO T y) with
          | none => simp [hq] at hb
          | some b =>
            simp [hq] at hb; subst hb
            exact done (val_run (eqNil_ok x y hx hy hq w).2) (.bool _)
        · cases hb
  case unOp uop t x =>
    have hx := ev x (by simp [Op.operands])
    split at h
    · rename_i hf
      cases hb : pureV E.P (Op.unary uop (evalO T x)) with
      | none => simp [hb] at h
      | some v =>
        simp [hb] at h
        obtain ⟨rfl, rfl⟩ := h
        rw [← flat_eq depth hf hx] at hb
        obtain ⟨h1, h2⟩ := pureV_ok hb w
        exact done (val_run h1) (VR.of_flat μ depth h2)
    · cases h
  case makeInterface t x =>
    have hx := ev x (by simp [Op.operands])
    split at h
    · cases h
    · rename_i d hne hu
      cases h
      refine done (v' := .iface t (a.eval x)) (val_run ?_) (.iface t hx)
      simp only [Instr.makeInterface, Sem.run_bind, run_underlying hu, Result.andThen_ok]
      cases d <;> first | rfl | exact absurd hu (hne _)
    · cases h
  case makeFunc fn f c =>
    cases h
    refine done (v' := .func fn (f.map a.eval) (c.map a.eval)) rfl (.func' fn ?_ ?_)
    · unfold VRa
      simp only [Array.toList_map]
      exact VRs.map fun x hx => ev x (by simp only [Op.operands, Array.mem_append]; exact .inl (Array.mem_toList_iff.1 hx))
    · unfold VRa
      simp only [Array.toList_map]
      exact VRs.map fun x hx => ev x (by simp only [Op.operands, Array.mem_append]; exact .inr (Array.mem_toList_iff.1 hx))
  case fieldAddr s x f =>
    have hx := ev x (by simp [Op.operands])
    split at h
    · rename_i fs ad hu hv
      rw [hv] at hx
      obtain ⟨hs, m, hm, he⟩ := hx.ptr_some
      split at h
      · rename_i fd hfd
        split at h
        · rename_i k hk
          split at h
          · cases h
          · rename_i hk0
            cases h
            refine done (v' := .pointer (some (m.addr (ad.off + fd.offset)))) (val_run ?_) (.ptr (a := ⟨ad.block, ad.off + fd.offset, none⟩) rfl hm)
            simp only [Instr.fieldAt, Sem.run_bind, run_underlying hu, Result.andThen_ok, hfd, he, Instr.sureAddr, Sem.run_pure, fieldPlace, run_size' hk, hk0, if_false, addr_add]
        · cases h
      · cases h
    · cases h
  case field t x f =>
    have hx := ev x (by simp [Op.operands])
    split at h
    · rename_i fs cs hu hv
      rw [hv] at hx
      obtain ⟨cs', he, hc⟩ := hx.of_agg
      split at h
      · rename_i fd hfd
        cases hp : partV E.P fd.type cs fd.offset with
        | none => simp [hp] at h
        | some v =>
          simp [hp] at h
          obtain ⟨rfl, rfl⟩ := h
          obtain ⟨v', h1, h2⟩ := partV_ok (P := E.P) (w := w) hc hp
          refine done (val_run (v := v') ?_) h2
          simp only [Instr.field, Sem.run_bind, run_underlying hu, Result.andThen_ok, hfd, he, asAgg, Sem.run_pure, h1]
      · cases h
    · cases h
  case indexAddr t x i =>
    have hx := ev x (by simp [Op.operands])
    have hi := ev i (by simp [Op.operands])
    split at h
    · rename_i el ad len c n hu hv hn
      rw [hv] at hx
      obtain ⟨ki, hi1⟩ := idx_int hn
      have hi2 : a.eval i = .int ki n := by rw [hi1] at hi; exact hi.int'
      split at h
      · rename_i e he
        split at h
        · rename_i hlt
          cases h
          have hx' : ∃ m c', μ ad.block = some m ∧ a.eval x = .slice (some (m.addr ad.off)) len c' := by
            generalize hq : a.eval x = q at hx
            generalize c = q2 at hx
            generalize hl : len = ln at hx
            cases hx with
            | sliceE hs hc hm => exact ⟨_, _, hm, rfl⟩
            | sliceO hs hm hl hn => exact ⟨_, _, hm, rfl⟩
            | sliceE0 hs hm => omega
            | sliceO0 hs hm hl => omega
          obtain ⟨m, c', hm, he'⟩ := hx'
          refine done (v' := .pointer (some (m.addr (ad.off + n * e)))) (val_run ?_) (.ptr (a := ⟨ad.block, ad.off + n * e, none⟩) rfl hm)
          have hb : (0 : Int) ≤ (n : Int) ∧ (n : Int) < (len : Int) := by omega
          rw [hi2, he']
          simp only [Instr.indexAt, Sem.run_bind, asIntOf, Sem.run_pure, Result.andThen_ok, run_underlying hu, hb, and_self, if_true, run_size' he, Int.toNat_natCast, addr_add]
        · cases h
      · cases h
    · rename_i len el ad n hu hv hn
      rw [hv] at hx
      obtain ⟨hs, m, hm, he'⟩ := hx.ptr_some
      obtain ⟨ki, hi1⟩ := idx_int hn
      have hi2 : a.eval i = .int ki n := by rw [hi1] at hi; exact hi.int'
      split at h
      · rename_i e he
        split at h
        · rename_i hlt
          cases h
          refine done (v' := .pointer (some (m.addr (ad.off + n * e)))) (val_run ?_) (.ptr (a := ⟨ad.block, ad.off + n * e, none⟩) rfl hm)
          have hb : (0 : Int) ≤ (n : Int) ∧ (n : Int) < (len : Int) := by omega
          rw [hi2, he']
          simp only [Instr.indexAt, Sem.run_bind, asIntOf, Sem.run_pure, Result.andThen_ok, run_underlying hu, Instr.sureAddr, hb, and_self, if_true, run_size' he, Int.toNat_natCast, addr_add]
        · cases h
      · cases h
    · cases h
  case index t x i =>
    have hx := ev x (by simp [Op.operands])
    have hi := ev i (by simp [Op.operands])
    split at h
    · rename_i len el cs n hu hv hn
      rw [hv] at hx
      obtain ⟨cs', he', hc⟩ := hx.of_agg
      obtain ⟨ki, hi1⟩ := idx_int hn
      have hi2 : a.eval i = .int ki n := by rw [hi1] at hi; exact hi.int'
      split at h
      · rename_i e he
        split at h
        · rename_i hlt
          cases hp : partV E.P el cs (n * e) with
          | none => simp [hp] at h
          | some v =>
            simp [hp] at h
            obtain ⟨rfl, rfl⟩ := h
            obtain ⟨v', h1, h2⟩ := partV_ok (P := E.P) (w := w) hc hp
            refine done (val_run (v := v') ?_) h2
            have hb : (0 : Int) ≤ (n : Int) ∧ (n : Int) < (len : Int) := by omega
            rw [hi2, he']
            simp only [Instr.index, Sem.run_bind, asIntOf, Sem.run_pure, Result.andThen_ok, run_underlying hu, hb, and_self, if_true, run_size' he, Int.toNat_natCast, h1]
        · cases h
      · cases h
    · rename_i s n hu hv hn
      rw [hv] at hx
      have he' := hx.str
      obtain ⟨ki, hi1⟩ := idx_int hn
      have hi2 : a.eval i = .int ki n := by rw [hi1] at hi; exact hi.int'
      cases hs : s[n]? with
      | none => simp [hs] at h
      | some b =>
        simp [hs] at h
        obtain ⟨rfl, rfl⟩ := h
        refine done (val_run (v := .int .u8 b.toNat) ?_) (.int _ _)
        have hb : (0 : Int) ≤ (n : Int) := by omega
        rw [hi2, he']
        simp only [Instr.index, Sem.run_bind, asIntOf, Sem.run_pure, Result.andThen_ok, run_underlying hu, hb, if_true, Int.toNat_natCast, hs]
    · cases h
  case extract x i =>
    have hx := ev x (by simp [Op.operands])
    split at h
    · rename_i vs hv
      rw [hv] at hx
      obtain ⟨vs', he, hvs⟩ := hx.of_tuple
      cases hi : vs[i]? with
      | none => simp [hi] at h
      | some v =>
        simp [hi] at h
        obtain ⟨rfl, rfl⟩ := h
        have hl : i < vs'.size := by rw [← hvs.size]; exact (Array.getElem?_eq_some_iff.1 hi).1
        refine done (val_run (v := vs'[i]) ?_) (hvs.at i _ _ hi (Array.getElem?_eq_getElem hl))
        simp [Instr.extract, he, hl]
    · cases h
theorem opStep_ok (E : Env) (hE : EnvOk E) (R : Rl base μ H w) {T : Tr Value} {a : Act} {o : Oper} (ev0 : ∀ x, x ∈ o.op.operands → VR μ (evalO T x) (a.eval x)) {re : Re} (h : opStep E T H o = some (re, H')) :
    OpR base μ H w re H' ((execOp a.eval o).run E.P w) := by
  by_cases hnt : inert o = true
  · obtain ⟨v, v', rfl, rfl, h1, h2⟩ := inert_ok (w := w) E hnt ev0 h
    exact .same R h1 h2
  obtain ⟨dst, op, type, pos, after, guard⟩ := o
  have ev : ∀ x, x ∈ op.operands → VR μ (evalO T x) (a.eval x) := ev0
  clear ev0
  cases op
  all_goals first
    | (exact absurd rfl hnt)
    | skip
  all_goals clear hnt
  all_goals simp only [opStep] at h
  case alloc t =>
    cases hz : tzero E.P t with
    | none => simp [hz] at h
    | some z =>
      simp [hz] at h
      obtain ⟨rfl, rfl⟩ := h
      have S := new_ok R 0 t (zero_ok (P := E.P) hz).cells
      refine ⟨_, _, _, ?_, S, upd_addr0 R ⟨⟨w.heap.size, 0, none⟩, z.cells.toList.length, 0⟩ rfl rfl⟩
      simp [execOp, Instr.alloc, (run_zero' hz w).1, newVar, newRow, run_newObj_alloc]
  case box t x =>
    cases h
    have hv := ev x (by simp [Op.operands])
    have S := new_ok R 0 t hv.cells
    refine ⟨_, _, _, ?_, S, upd_addr0 R ⟨⟨w.heap.size, 0, none⟩, (a.eval x).cells.toList.length, 0⟩ rfl rfl⟩
    simp [execOp, Instr.box, newVar, newRow, run_newObj_alloc]
  case buildSlice t len ps =>
    split at h
    · cases h
    · rename_i el hel
      split at h
      · rename_i e z he hz
        split at h
        · rename_i hlen
          split at h
          · rename_i cs hf
            cases h
            have hz' : VRa μ (if len * e = 0 then #[] else z.cells) (if len * e = 0 then #[] else z.cells) := by
              split
              · exact ⟨rfl, fun i x y h => by simp at h⟩
              · exact (zero_ok (P := E.P) hz).cells
            have hz2 : VRa μ ((Array.range (len * e)).map fun i => (if len * e = 0 then #[] else z.cells)[i % (if len * e = 0 then #[] else z.cells).size]!) ((Array.range (len * e)).map fun i => (if len * e = 0 then #[] else z.cells)[i % (if len * e = 0 then #[] else z.cells).size]!) := by
              refine .mk rfl fun i x y hx hy => ?_
              rw [hx] at hy; cases hy
              by_cases h0 : len * e = 0
              · simp [h0] at hx
              · simp only [h0, if_false] at hx
                have hm : x ∈ zerosOf z.cells (len * e) := by
                  unfold zerosOf
                  exact Array.mem_toList_iff.2 (Array.mem_of_getElem? hx)
                exact VR.of_flat μ depth (zerosOf_flat (run_zero' (P := E.P) hz w).2 _ x hm)
            obtain ⟨cs', h1, h2⟩ := fill_ok (μ := μ) (fun i => some (i * e, e)) _ (ps.toList.map fun p => (p.1, a.eval p.2)) _ _ cs (by simp) (by
              simp only [List.map_map]
              exact VRs.map fun p hp => ev p.2 (by simp [Op.operands]; exact ⟨p.1, Array.mem_toList_iff.1 hp⟩)) hz2 hf
            have S := new_ok R 0 el h2
            refine ⟨_, .slice (some ⟨w.heap.size, 0, none⟩) len len, _, ?_, S, ?_⟩
            · have e1 : (ps.map fun p => (p.1, a.eval p.2)) = (ps.toList.map fun p => (p.1, a.eval p.2)).toArray := by apply Array.ext'; simp
              have hr := run_buildSlice (P := E.P) (w := w) (elemT_some hel) he hz hlen.1 h1
              rw [← e1] at hr
              have := val_run hr
              simpa [execOp] using this
            · exact .sliceE (a := ⟨H.n, 0, none⟩) rfl (by have := room_lt; unfold OPEN; omega) (upd_same μ H.n _)
          · cases h
        · cases h
      · cases h
  case load t x =>
    have hx := ev x (by simp [Op.operands])
    split at h
    · rename_i ad hv
      rw [hv] at hx
      obtain ⟨hs, m, hm, he⟩ := hx.ptr_some
      cases hl : loadV E.P H t ad with
      | none => simp [hl] at h
      | some v =>
        simp [hl] at h
        obtain ⟨rfl, rfl⟩ := h
        obtain ⟨v', h1, h2⟩ := loadV_ok (P := E.P) R hm hl
        exact .same R (by simp [execOp, Instr.loadAt, Instr.sureAddr, he, h1]) h2
    · cases h
  case store t x y =>
    have hx := ev x (by simp [Op.operands])
    have hy := ev y (by simp [Op.operands])
    split at h
    · rename_i ad hv
      rw [hv] at hx
      obtain ⟨hs, m, hm, he⟩ := hx.ptr_some
      cases hl : storeV E.P H t ad (evalO T y) with
      | none => simp [hl] at h
      | some H1 =>
        simp [hl] at h
        obtain ⟨rfl, rfl⟩ := h
        obtain ⟨w', h1, h2⟩ := storeV_ok (P := E.P) R hm hy hl
        exact ⟨μ, w', by simp [execOp, Instr.storeAt, Instr.sureAddr, he, h1], h2⟩
    · cases h
  case convert s d x =>
    have hx := ev x (by simp [Op.operands])
    cases hb : convV E.P H s d (evalO T x) with
    | none => simp [hb] at h
    | some v =>
      simp [hb] at h
      obtain ⟨rfl, rfl⟩ := h
      obtain ⟨v', h1, h2⟩ := convV_ok (P := E.P) R hx hb
      exact .same R (val_run h1) h2
  case makeMap t r =>
    cases r with
    | some r => simp [opStep] at h
    | none =>
      simp only [opStep] at h
      cases h
      have S := R.newMap
      refine ⟨_, .map (some w.heap.size), _, val_run ?_, S, ?_⟩
      · simp [Instr.makeMap, run_newObj_alloc]
      · exact .map (m := ⟨⟨w.heap.size, 0, none⟩, 0, 0⟩) (upd_same μ H.n _)
  case makeSlice t l c =>
    have hl := ev l (by simp [Op.operands])
    have hc := ev c (by simp [Op.operands])
    split at h
    · rename_i el ln cp hel hil hic
      split at h
      · rename_i e z bytes he hz hb
        split at h
        · rename_i hcond
          obtain ⟨c1, c2, c3⟩ := hcond
          cases h
          obtain ⟨kl, hl1⟩ := idx_int hil
          obtain ⟨kc, hc1⟩ := idx_int hic
          have hl2 : a.eval l = .int kl ln := by rw [hl1] at hl; exact hl.int'
          have hc2 : a.eval c = .int kc cp := by rw [hc1] at hc; exact hc.int'
          have hmr : maxRoom = 35184372088832 := rfl
          obtain ⟨inf, hin⟩ : ∃ i, E.P.info? el = some i := by
            unfold tsz at he
            cases hi : E.P.info? el with
            | none => simp [hi] at he
            | some i => exact ⟨i, rfl⟩
          have hti : ∀ w, (typeInfo el).run E.P w = .ok inf w := fun w => by simp [typeInfo, hin]
          have hby : inf.bytes = bytes := by unfold tbytes at hb; simpa [hin] using hb
          have hwl : IntKind.i64.wrap (ln : Int) = ln := IntWalk.i64_in _ (by omega)
          have hwc : IntKind.i64.wrap (cp : Int) = cp := IntWalk.i64_in _ (by omega)
          have htl : (decide ((cp : Int) < 0) || decide ((inf.bytes : Int) * (cp : Int) > 2 ^ 48)) = false := by
            rw [hby, ← Int.natCast_mul, Nat.mul_comm bytes cp]
            generalize cp * bytes = q at c3
            simp only [Bool.or_eq_false_iff, decide_eq_false_iff_not]
            omega
          have hneg : ¬ ((ln : Int) < 0) := by omega
          have hgt : ¬ ((ln : Int) > cp) := by omega
          have S := new_ok R 0 el (VRs.of_flats (μ := μ) (zerosOf_flat (run_zero' (P := E.P) hz w).2 (cp * e)))
          refine ⟨_, .slice (some ⟨w.heap.size, 0, none⟩) ln cp, _, val_run ?_, S, ?_⟩
          · rw [hl2, hc2]
            by_cases h0 : cp * e = 0
            · simp only [Instr.makeSlice, Sem.run_bind, run_underlying (elemT_some hel), Result.andThen_ok, asInt, asIntOf, Sem.run_pure, hti, hwl, hwc, htl, hneg, hgt, Bool.false_or, decide_false, Bool.or_self, Bool.false_eq_true, if_false, run_askRoom, Int.toNat_natCast, run_size' he, h0, if_true, newRow, run_newObj_alloc]
              have e0 : Array.range 0 = (#[] : Array Nat) := Array.eq_empty_of_size_eq_zero (by simp)
              simp [zerosOf, e0]
            · simp only [Instr.makeSlice, Sem.run_bind, run_underlying (elemT_some hel), Result.andThen_ok, asInt, asIntOf, Sem.run_pure, hti, hwl, hwc, htl, hneg, hgt, Bool.false_or, decide_false, Bool.or_self, Bool.false_eq_true, if_false, run_askRoom, Int.toNat_natCast, run_size' he, h0, (run_zero' hz w).1, newRow, run_newObj_alloc, zerosOf, Array.toArray_toList]
          · exact .sliceE (a := ⟨H.n, 0, none⟩) rfl (by have := room_lt; omega) (upd_same μ H.n _)
        · cases h
      · cases h
    · cases h
  case slice t x lo hi mx =>
    have hx := ev x (by simp [Op.operands])
    cases hb : sliceV E.P H t (evalO T x) (lo.map (evalO T)) (hi.map (evalO T)) (mx.map (evalO T)) with
    | none => simp [hb] at h
    | some v =>
      simp [hb] at h
      obtain ⟨rfl, rfl⟩ := h
      have ov : ∀ q : Option Operand, (∀ y, q = some y → y ∈ (Op.slice t x lo hi mx).operands) → OVR μ (q.map (evalO T)) (q.map a.eval) := fun q hq => by
        cases q with
        | none => trivial
        | some y => exact ev y (hq y rfl)
      obtain ⟨v', h1, h2⟩ := sliceV_ok (P := E.P) R hx (ov lo (fun x hx => by subst hx; simp [Op.operands])) (ov hi (fun x hx => by subst hx; simp [Op.operands])) (ov mx (fun x hx => by subst hx; simp [Op.operands])) hb
      exact .same R (val_run h1) h2
  case lookup t x k ok =>
    have hx := ev x (by simp [Op.operands])
    have hk := ev k (by simp [Op.operands])
    split at h
    · rename_i kt el hu
      split at h
      · rename_i kd z hkd hz
        split at h
        · rename_i hkf
          split at h
          · rename_i es hes
            split at h
            · rename_i hall
              obtain ⟨hke, hisk⟩ := keyFlat_eq hkf hk
              rw [← hke] at hkf h
              have hents : ∃ es' : Array MapEntry, ((a.eval x = .map none ∧ es' = #[]) ∨ ∃ r c, a.eval x = .map (some r) ∧ w.heap[r]? = some (.map es' c)) ∧ es.length = es'.toList.length ∧
                  (∀ (i : Nat) e e', es[i]? = some e → es'.toList[i]? = some e' → VR μ e.key e'.key ∧ VR μ e.val e'.val ∧ e.born = e'.born) := by
                unfold entriesV at hes
                split at hes
                · rename_i hv
                  cases hes
                  rw [hv] at hx
                  have : a.eval x = .map none := by generalize a.eval x = q at hx; cases hx; rfl
                  exact ⟨#[], .inl ⟨this, rfl⟩, rfl, fun i e e' h => by simp at h⟩
                · rename_i r hv
                  rw [hv] at hx
                  cases hg : H.getMap r with
                  | none => simp [hg] at hes
                  | some p =>
                    obtain ⟨es0, c⟩ := p
                    simp [hg] at hes
                    subst hes
                    have : ∃ m, μ r = some m ∧ a.eval x = .map (some m.at_.block) := by generalize a.eval x = q at hx; cases hx with | map hm => exact ⟨_, hm, rfl⟩
                    obtain ⟨m, hm, he⟩ := this
                    obtain ⟨es', q1, q2, q3⟩ := (R.map r m es0 c hm (getMap_some hg)).ex
                    exact ⟨es', .inr ⟨_, _, he, q1⟩, by simpa using q2, fun i e e' h1 h2 => q3 i e e' h1 (by simpa using h2)⟩
                · cases hes
              obtain ⟨es', r1, r2, r3⟩ := hents
              obtain ⟨f1, f2⟩ := findNow_rel (kd := kd) (k := a.eval k) es es'.toList 0 r2 hall r3
              split at h
              · rename_i j v hfn
                cases h
                obtain ⟨v', g1, g2⟩ := f2 j v hfn
                refine .same R (val_run (lookup_run hu hkd (hke ▸ hisk) hz r1 g1)) ?_
                cases ok
                · exact g2
                · refine .tuple rfl fun i x y hx hy => ?_
                  match i with
                  | 0 => simp at hx hy; subst hx; subst hy; exact g2
                  | 1 => simp at hx hy; subst hx; subst hy; exact .bool _
                  | i + 2 => simp at hx
              · rename_i hfn
                cases h
                refine .same R (val_run (lookup_run hu hkd (hke ▸ hisk) hz r1 (f1 hfn))) ?_
                cases ok
                · exact zero_ok hz
                · refine .tuple rfl fun i x y hx hy => ?_
                  match i with
                  | 0 => simp at hx hy; subst hx; subst hy; exact zero_ok hz
                  | 1 => simp at hx hy; subst hx; subst hy; exact .bool _
                  | i + 2 => simp at hx
              · cases h
            · cases h
          · cases h
        · cases h
      · cases h
    · cases h
  case mapEntry t x k =>
    have hx := ev x (by simp [Op.operands])
    have hk := ev k (by simp [Op.operands])
    split at h
    · rename_i kt el r hu hv
      rw [hv] at hx
      split at h
      · rename_i kd z es c hkd hz hg
        split at h
        · rename_i hc
          simp only [Bool.and_eq_true] at hc
          obtain ⟨v, rfl, μ', v', w', h1, h2, h3⟩ := mapEntry_ok (P := E.P) R hu hkd hz hx hk hg hc.1 hc.2 h
          exact ⟨μ', v', w', val_run h1, h2, h3⟩
        · cases h
      · cases h
    · cases h
  case mapUpdate t x k y =>
    have hx := ev x (by simp [Op.operands])
    have hk := ev k (by simp [Op.operands])
    have hy := ev y (by simp [Op.operands])
    split at h
    · rename_i kt el r hu hv
      rw [hv] at hx
      split at h
      · rename_i kd es c hkd hg
        split at h
        · rename_i hc
          simp only [Bool.and_eq_true] at hc
          obtain ⟨rfl, w', h1, h2⟩ := mapUpdate_ok (P := E.P) R hu hkd hx hk hy hg hc.1 hc.2 h
          exact ⟨μ, w', by simp [execOp, h1], h2⟩
        · cases h
      · cases h
    · cases h
  case entryStore t x s y =>
    have hx := ev x (by simp [Op.operands])
    have hs := ev s (by simp [Op.operands])
    have hy := ev y (by simp [Op.operands])
    split at h
    · rename_i r born hv hb
      rw [hv] at hx
      split at h
      · rename_i es c hg
        split at h
        · rename_i i hi
          cases h
          obtain ⟨w', h1, h2⟩ := entryStore_ok (P := E.P) (t := t) R hx hs hy hg hb hi
          exact ⟨μ, w', by simp [execOp, h1], h2⟩
        · cases h
      · cases h
    · cases h
  case call c =>
    obtain ⟨callee, args, argTypes⟩ := c
    have hargs : VRs μ (args.toList.map (evalO T)) (args.toList.map a.eval) := VRs.map fun x hx => ev x (by
      simp only [Op.operands, Call.operands, Array.mem_append]; exact .inr (Array.mem_toList_iff.1 hx))
    cases callee with
    | builtin b =>
      simp only at h
      obtain ⟨⟨v, H1⟩, hb, hq⟩ := Option.map_eq_some_iff.1 h
      simp only [Prod.mk.injEq] at hq
      obtain ⟨rfl, rfl⟩ := hq
      · skip
        obtain ⟨μ', v', w', h1, h2, h3⟩ := builtinV_ok (P := E.P) R hargs hb
        refine ⟨μ', v', w', ?_, h2, h3⟩
        have e : args.map a.eval = (args.toList.map a.eval).toArray := by apply Array.ext'; simp
        simp only [execOp, resolve, Sem.run_bind, Sem.run_pure, Result.andThen_ok, invoke, e]
        exact h1
    | value f =>
      simp only at h
      have hf := ev f (by simp [Op.operands, Call.operands])
      split at h
      · rename_i g first captured hv
        rw [hv] at hf
        obtain ⟨first', captured', he, hf1, hf2⟩ := hf.fn
        have hall : VRa μ (first ++ args.map (evalO T) ++ captured) (first' ++ args.map a.eval ++ captured') := by
          unfold VRa
          simp only [Array.toList_append, Array.toList_map]
          exact (hf1.append hargs).append hf2
        have hrun : (execOp a.eval ⟨dst, .call ⟨.value f, args, argTypes⟩, type, pos, after, guard⟩).run E.P w = (callFunc g (first' ++ args.map a.eval ++ captured')).run E.P w := by
          simp only [execOp, resolve, he, Deferred.ofValue, Sem.run_bind, Sem.run_pure, Result.andThen_ok, invoke]
        split at h
        · rename_i fn hfn
          split at h
          · rename_i hbody
            cases h
            refine ⟨rfl, _, ?_, hall⟩
            rw [hrun]
            have hn := hE.name g fn hfn hbody
            have hb : fn.body.isNone = false := by cases hq : fn.body <;> simp_all
            simp only [callFunc, Sem.run_bind, run_program, Result.andThen_ok, hfn, hn, Bool.false_eq_true, if_false, hb, Sem.run_pure]
          · rename_i hbody
            split at h
            · rename_i x hX
              split at h
              · rename_i hfl
                obtain ⟨v, hxa, hq⟩ := Option.map_eq_some_iff.1 h
                simp only [Prod.mk.injEq] at hq
                obtain ⟨rfl, rfl⟩ := hq
                · skip
                  have heq : first' ++ args.map a.eval ++ captured' = first ++ args.map (evalO T) ++ captured := Array.ext' (flats_eq hall hfl)
                  obtain ⟨k1, k2⟩ := hE.x g x _ v hX hxa hfl w
                  exact .same R (by rw [hrun, heq]; exact k1) (VR.of_flat μ depth k2)
              · cases h
            · cases h
        · cases h
      · cases h
    | invoke rc nm => simp at h
  all_goals (cases h; done)
end
end Go.Proofs.YtmbofpmjckjceaaDoor.E
