/- Several texts of one claim in one file: YtmndbhgbngkakaaDoorJR, YtmndbhgbngkakaaDoorJS. No condition. -/
import Derived.Test.YtmndbhgbngkakaaDoorJ1
import Derived.Test.YtmndbhgbngkakaaDoorI8
import Derived.Test.YtmndbhgbngkakaaDoorEB
section
/- Memory that holds a map and a box; texts as keys; a row of items that is read. No condition but those that are written out. -/
namespace Go.Proofs.YtmndbhgbngkakaaDoor.Z
open Go Go.RowKit Go.Proofs.YtmndbhgbngkakaaDoor.E Go.Proofs.YtmndbhgbngkakaaDoor.G
set_option linter.all false

def lowM (H : Mem) (x : Nat) : Mem := { H with low := x }
def boxM (H : Mem) (cs : List Value) : Mem := { (H.new cs 0) with low := min H.low H.n }
section
variable {H : Mem} {r i : Nat} {es es0 : List MapEntry} {c c0 : Nat}
theorem lowM_n (H : Mem) (x : Nat) : (lowM H x).n = H.n := rfl
theorem lowM_low (H : Mem) (x : Nat) : (lowM H x).low = x := rfl
theorem lowM_lowM (H : Mem) (x y : Nat) : lowM (lowM H x) y = lowM H y := rfl
theorem rd_lowM (H : Mem) (x a o k : Nat) : rd (lowM H x) a o k = rd H a o k := rfl
theorem map_lowM (H : Mem) (x a : Nat) : (lowM H x).getMap a = H.getMap a := rfl
theorem box_n (H : Mem) (cs : List Value) : (boxM H cs).n = H.n + 1 := rfl
theorem live_lowM (H : Mem) (x a : Nat) : (lowM H x).live a = H.live a := rfl
theorem boxM_eq (H : Mem) (cs : List Value) : boxM H cs = lowM (H.new cs 0) (min H.low H.n) := rfl
theorem live_box (W : WF H) (cs : List Value) (i : Nat) : (boxM H cs).live i = if H.n = i then some ⟨cs, 0, H.n, 0, false⟩ else H.live i := by
  rw [boxM_eq, live_lowM, live_new W]
theorem rd_box_self (W : WF H) {cs : List Value} {o k : Nat} (h : o + k ≤ cs.length) : rd (boxM H cs) H.n o k = some ((cs.drop o).take k) := by
  unfold rd
  rw [live_box W, if_pos rfl]
  simp only [h, if_true]
theorem rd_box (W : WF H) (cs : List Value) {a o k : Nat} (h : a < H.n) : rd (boxM H cs) a o k = rd H a o k := by
  unfold rd
  rw [live_box W, if_neg (by omega)]
theorem map_box (cs : List Value) {m : Nat} (h : m < H.n) : (boxM H cs).getMap m = H.getMap m := by
  unfold Mem.getMap
  have : (boxM H cs).obs.get m = H.obs.get m := by
    show (H.new cs 0).obs.get m = _
    rw [new_get, if_neg (by omega)]
  rw [this]
theorem store_box {P : Program} {t : TypeId} {z : List Value} {cs : Array Value} (W : WF H) (h1 : tsz P t = some cs.size) (h2 : z.length = cs.size) (h3 : cs.toList.all (·.oneCell') = true) :
    storeV P (H.new z 0) t ⟨H.n, 0, none⟩ (.agg cs) = some (boxM H cs.toList) := by
  unfold storeV
  rw [h1, if_pos (by rfl)]
  show wr (H.new z 0) H.n 0 cs.toList = _
  unfold wr
  rw [live_new W, if_pos rfl]
  simp only [true_and]
  rw [if_pos ⟨by simp [h2], h3⟩]
  have hs : splice z 0 cs.toList = cs.toList := by
    unfold splice
    simp only [List.take_zero, List.nil_append, Nat.zero_add]
    rw [List.drop_eq_nil_of_le (by simp [h2])]
    simp
  rw [hs]
  unfold Mem.put
  simp only [if_true]
  congr 1
  unfold boxM Mem.new
  simp only [Tr.set_set]
theorem Ev_low (own : Nat → Prop) {x : Nat} (h : ∀ m, m ≤ H.low → m ≤ H.n → m ≤ x) : Ev own H (lowM H x) := ⟨Nat.le_refl _, fun W => W.low x, fun _ _ _ h _ => h, fun m a b _ => h m a b⟩
theorem Ev_box (own : Nat → Prop) (H : Mem) (cs : List Value) : Ev own H (boxM H cs) := by
  have h1 := Ev.new own H cs 0
  exact ⟨h1.n, fun W => (W.new cs 0).low _, fun W i b hl hb => by rw [live_box W, if_neg (by have := live_lt W hl; omega)]; exact hl, fun m a b _ => Nat.le_min.2 ⟨a, b⟩⟩
theorem newMap_get (H : Mem) (i : Nat) : H.newMap.obs.get i = if H.n = i then some (.map [] 0) else H.obs.get i := Tr.get_set _ _ _ _
theorem Ev_newMap (own : Nat → Prop) (H : Mem) : Ev own H H.newMap := by
  refine ⟨Nat.le_succ _, fun W => W.newMap, fun W i b hl hb => ?_, fun m a _ _ => a⟩
  obtain ⟨ho, ha⟩ := live_some hl
  have := W.lt _ _ ho
  exact live_of (by rw [newMap_get, if_neg (by omega)]; exact ho) ha
theorem map_newMap (H : Mem) : H.newMap.getMap H.n = some ([], 0) := by
  unfold Mem.getMap
  rw [newMap_get, if_pos rfl]
theorem WF_putMap (W : WF H) (h : H.getMap r = some (es0, c0)) : WF (H.putMap r es c) := by
  have ho := getMap_some h
  refine ⟨fun i o h => ?_, fun i b h hr => ?_, W.gen⟩
  · rw [putMap_get] at h
    show i < H.n
    split at h
    · rename_i e; subst e; exact W.lt _ _ ho
    · exact W.lt i o h
  · rw [putMap_get] at h
    split at h
    · cases h
    · obtain ⟨x1, x2, x3, x4⟩ := W.fam i b h hr
      refine ⟨x1, x2, x3, fun he => ?_⟩
      obtain ⟨b', hb', y⟩ := x4 he
      exact ⟨b', by rw [putMap_get, if_neg (fun e => by rw [← e, ho] at hb'; cases hb')]; exact hb', y⟩
theorem Ev_putMap (h : H.getMap r = some (es0, c0)) : Ev (fun f => f = r) H (H.putMap r es c) := by
  have ho := getMap_some h
  refine ⟨Nat.le_refl _, fun W => WF_putMap W h, fun W i b hl hb => ?_, fun m a _ k => Nat.le_min.2 ⟨a, k r rfl⟩⟩
  obtain ⟨ho', ha⟩ := live_some hl
  exact live_of (by rw [putMap_get, if_neg (fun e => by rw [← e, ho] at ho'; cases ho')]; exact ho') ha
theorem map_putMap : (H.putMap r es c).getMap r = some (es, c) := by
  unfold Mem.getMap
  rw [putMap_get, if_pos rfl]
end
theorem ba_beq (a b : ByteArray) : (a == b) = decide (a = b) := by
  have h : (a == b) = (a.data == b.data) := by cases a; cases b; rfl
  rw [h]
  by_cases e : a = b
  · subst e; simp
  · have : a.data ≠ b.data := fun x => e (by cases a; cases b; exact congrArg _ x)
    simp [e, this]
/-- Each of these keys, once. -/
def Ent (es : List MapEntry) (ks : List ByteArray) : Prop := es.map (fun e => (e.key, e.val)) = ks.map fun s => (Value.string s, Value.int .i64 1)
theorem Ent.nil : Ent [] [] := rfl
theorem Ent.snoc {es : List MapEntry} {ks : List ByteArray} (h : Ent es ks) (s : ByteArray) (c : Nat) : Ent (es ++ [⟨.string s, .int .i64 1, c⟩]) (ks ++ [s]) := by
  unfold Ent at *
  simp [h]
theorem Ent.flat : ∀ {es : List MapEntry} {ks : List ByteArray}, Ent es ks → es.all (fun e => keyFlat .string e.key) = true
  | [], _, _ => rfl
  | e :: es, [], h => by simp [Ent] at h
  | e :: es, k :: ks, h => by
    simp only [Ent, List.map_cons, List.cons.injEq, Prod.mk.injEq] at h
    simp only [List.all_cons, h.1.1, keyFlat, Bool.true_and]
    exact Ent.flat h.2
theorem Ent.out {s : ByteArray} : ∀ {es : List MapEntry} {ks : List ByteArray} (i : Nat), Ent es ks → s ∉ ks → Instr.findNow .string (.string s) es i = some none
  | [], _, _, _, _ => rfl
  | e :: es, [], _, h, _ => by simp [Ent] at h
  | e :: es, k :: ks, i, h, hn => by
    simp only [Ent, List.map_cons, List.cons.injEq, Prod.mk.injEq] at h
    simp only [List.mem_cons, not_or] at hn
    unfold Instr.findNow
    rw [h.1.1]
    have : Instr.sameNow .string (.string s) (.string k) = some false := by
      unfold Instr.sameNow
      simp [ba_beq, hn.1]
    rw [this]
    exact Ent.out (i + 1) h.2 hn.2
theorem Ent.in {s : ByteArray} : ∀ {es : List MapEntry} {ks : List ByteArray} (i : Nat), Ent es ks → s ∈ ks → ∃ j, Instr.findNow .string (.string s) es i = some (some (j, .int .i64 1))
  | [], [], _, _, hn => by simp at hn
  | [], k :: ks, _, h, hn => by simp [Ent] at h
  | e :: es, [], _, h, _ => by simp [Ent] at h
  | e :: es, k :: ks, i, h, hn => by
    simp only [Ent, List.map_cons, List.cons.injEq, Prod.mk.injEq] at h
    unfold Instr.findNow
    rw [h.1.1, h.1.2]
    by_cases e1 : s = k
    · have : Instr.sameNow .string (.string s) (.string k) = some true := by
        unfold Instr.sameNow
        simp [ba_beq, e1]
      rw [this]
      exact ⟨i, rfl⟩
    · have : Instr.sameNow .string (.string s) (.string k) = some false := by
        unfold Instr.sameNow
        simp [ba_beq, e1]
      rw [this]
      exact Ent.in (i + 1) h.2 (by simpa [e1] using hn)
/-- A row of items, as it lies there. -/
def RowAt (H : Mem) (v : Value) (L : List It) : Prop :=
  ∃ base cap, v = .slice base L.length cap ∧ ∀ j, j < L.length → ∃ r off eb, base = some ⟨r, off, none⟩ ∧ H.live r = some eb ∧ rd H r (off + j * 3) 3 = some [.string (gi L j).key, .int .u64 (gi L j).u, .int .u64 (gi L j).w]
theorem its_has (L : List It) : ∀ x, x ∈ its L → has I.iSh x = true := fun x hx => by
  obtain ⟨y, _, rfl⟩ := List.mem_map.1 hx
  rfl
theorem its_get {L : List It} {j : Nat} (h : j < L.length) : (its L)[j]? = some (itF (gi L j)) := by
  unfold its
  rw [List.getElem?_map, List.getElem?_eq_getElem h, gi_at h]; rfl
theorem rowAt {C : Cx} {L : List It} {v : Value} (h : FR C (.row I.iSh (its L)) v) : RowAt C.H v L := by
  have hlen := its_len L
  generalize hl : its L = l at h hlen
  cases h with
  | rowN => exact ⟨none, 0, by rw [← hlen]; rfl, fun j hj => by simp at hlen; omega⟩
  | rowE _ hs hc => exact ⟨_, _, by rw [← hlen]; rfl, fun j hj => by simp at hlen; omega⟩
  | row hst hr hc hs hf =>
    rename_i i off cap eb
    refine ⟨_, _, by rw [← hlen], fun j hj => ⟨i, off, eb, rfl, hst.1, ?_⟩⟩
    have hsz : I.iSh.size = 3 := rfl
    rw [hsz] at hr hf
    have hbig : off + j * 3 + 3 ≤ eb.cells.length := by omega
    unfold rd
    rw [hst.1]
    simp only [hbig, if_true]
    subst hl
    have g := its_get hj
    have e := I.cells_eq (its_has L) (by rw [its_len]; rw [its_len] at hr; exact hr) hf
    have key : ∀ d (x : Value), d < 3 → (I.cellsV (its L))[j * 3 + d]? = some x → eb.cells[off + j * 3 + d]? = some x := fun d x hd hx => by
      rw [← e, List.getElem?_take] at hx
      split at hx
      · rw [List.getElem?_drop] at hx
        rw [← hx]; congr 1; omega
      · cases hx
    refine congrArg some (I.take_drop_of (k := 3) rfl hbig fun t ht => ?_)
    rcases t with _ | _ | _ | t
    · exact key 0 _ (by omega) (I.cellsV_get (its_has L) g (j := 0) rfl).1
    · exact key 1 _ (by omega) (I.cellsV_get (its_has L) g (j := 1) rfl).1
    · exact key 2 _ (by omega) (I.cellsV_get (its_has L) g (j := 2) rfl).1
    · omega
end Go.Proofs.YtmndbhgbngkakaaDoor.Z
end
section
/- keep.Right over plain data. No condition but those that are written out. -/
namespace Go.Proofs.YtmndbhgbngkakaaDoor.Z
open Go Go.RowKit Go.Proofs.YtmndbhgbngkakaaDoor.E Go.Proofs.YtmndbhgbngkakaaDoor.G
set_option linter.all false

set_option maxRecDepth 100000
set_option maxHeartbeats 4000000
theorem draw_nil {E : Env} {call : Go.Proofs.YtmndbhgbngkakaaDoor.E.Call} {ops : Array Oper} {k : Nat} {T : Tr Value} {H : Mem} : evDraw E call ops [] k T H = some (T, H) := rfl
theorem draw_cons {E : Env} {call : Go.Proofs.YtmndbhgbngkakaaDoor.E.Call} {ops : Array Oper} {o : Oper} {rest : List Oper} {k : Nat} {T : Tr Value} {H : Mem} :
    evDraw E call ops (o :: rest) k T H = match stepOne E call ops o T (lowM H H.n) with
      | some (T', H') => if H.n ≤ H'.low ∨ barrierB ops.toList k = true then evDraw E call ops rest (k + 1) T' (lowM H' (min H.low H'.low)) else none
      | none => none := rfl
theorem min_mr (a b : Nat) : min (min a b) b = min a b := by omega
theorem envP : EV.P = Tryd.prog := rfl
theorem call_chk (n : Nat) {k : ByteArray} {u w : Int} (h : It.ok ⟨k, u, w⟩) (H : Mem) : evCall EV (n + 1) 11 #[.agg #[.string k, .int .u64 u, .int .u64 w]] H = some (.int .i64 (chkIt ⟨k, u, w⟩), H) := by
  rw [evCall_eq]
  have e : EV.I 11 = some (flatI dChk) := rfl
  rw [e]
  show flatI dChk _ H = _
  unfold flatI
  refine (if_pos rfl).trans ?_
  show (match dChk [item k u w] with | some v => _ | none => _) = _
  rw [dChk_eq h]
  rfl
theorem call_cmp (n : Nat) {k k' : ByteArray} {u w u' w' : Int} (h : It.ok ⟨k, u, w⟩) (h' : It.ok ⟨k', u', w'⟩) (H : Mem) :
    evCall EV (n + 1) 18 #[.agg #[.string k, .int .u64 u, .int .u64 w], .agg #[.string k', .int .u64 u', .int .u64 w']] H = some (.int .i64 (cmpIt ⟨k, u, w⟩ ⟨k', u', w'⟩), H) := by
  rw [evCall_eq]
  have e : EV.I 18 = some (flatI dRank) := rfl
  rw [e]
  show flatI dRank _ H = _
  unfold flatI
  refine (if_pos rfl).trans ?_
  show (match dRank [item k u w, item k' u' w'] with | some v => _ | none => _) = _
  rw [dRank_eq h h']
  rfl
theorem call_fits (n : Nat) (k : Int) (H : Mem) : evCall EV (n + 1) 26 #[.int .i64 k] H = some (.bool (decide (1 ≤ k ∧ k ≤ 1024)), H) := by
  have e : EV.I 26 = none := rfl
  by_cases h1 : 1 ≤ k
  · by_cases h2 : k ≤ 1024
    · simp [evCall_eq, lookI, evCode, evList, stepOne, opStep, evalO, putT, yieldT, Region.wanted, Tr.get_set, Tr.get, initT, ressV, resV, flatI, flat, depth, loadV, storeV, addrOf, Value.cells, isAggD, Value.oneCell', buildV, places, Instr.fill, partV, iter_succ, e, Tryd.f26, h1, h2]
    · simp [evCall_eq, lookI, evCode, evList, stepOne, opStep, evalO, putT, yieldT, Region.wanted, Tr.get_set, Tr.get, initT, ressV, resV, flatI, flat, depth, loadV, storeV, addrOf, Value.cells, isAggD, Value.oneCell', buildV, places, Instr.fill, partV, iter_succ, e, Tryd.f26, h1, h2]
  · simp [evCall_eq, lookI, evCode, evList, stepOne, opStep, evalO, putT, yieldT, Region.wanted, Tr.get_set, Tr.get, initT, ressV, resV, flatI, flat, depth, loadV, storeV, addrOf, Value.cells, isAggD, Value.oneCell', buildV, places, Instr.fill, partV, iter_succ, e, Tryd.f26, h1]
def rightP (L : List It) (j : Nat) : Prop := chkIt (gi L j) = 0 ∧ (gi L j).key ∉ (L.take j).map It.key ∧ (0 < j → cmpIt (gi L (j - 1)) (gi L j) ≤ 0)
noncomputable instance (L : List It) (j : Nat) : Decidable (rightP L j) := Classical.propDecidable _
noncomputable def rightB (k : Int) (L : List It) : Bool := decide ((1 ≤ k ∧ k ≤ 1024) ∧ (L.length : Int) ≤ k + 1 ∧ ∀ j, j < L.length → rightP L j)
end Go.Proofs.YtmndbhgbngkakaaDoor.Z
end
