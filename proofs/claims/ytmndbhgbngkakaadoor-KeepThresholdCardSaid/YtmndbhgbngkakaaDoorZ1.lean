/- Layer 10's small functions. No condition. -/
import Derived.Test.YtmndbhgbngkakaaDoorZ0
import Derived.Test.YtmndbhgbngkakaaDoorShelf
namespace Go.Proofs.YtmndbhgbngkakaaDoor.Z
open Go Go.RowKit Go.Proofs.YtmndbhgbngkakaaDoor.E
set_option linter.all false

def ord (a b : Int) : Int := if a < b then -1 else if b < a then 1 else 0
def u64 (a : Int) : Prop := 0 ≤ a ∧ a < 18446744073709551616
instance (a : Int) : Decidable (u64 a) := by unfold u64; infer_instance
theorem u64_of {a : Int} (h : (Lit.int .u64 a).wf = true) : u64 a := by
  simp [Lit.wf, IntKind.min, IntKind.max, IntKind.signed, IntKind.bits] at h
  exact ⟨by omega, by omega⟩
def dOrd : List Value → Option Value
  | [.int .u64 a, .int .u64 b] => some (.int .i64 (ord a b))
  | _ => none
theorem ok_order : IntrOk Tryd.prog 50 (flatI dOrd) := by
  refine flatI_ok B_ok (.nil _) fun args v h => ?_
  unfold dOrd at h
  split at h
  · rename_i a b
    cases h
    refine ⟨5, ?_⟩
    by_cases h1 : a < b
    · simp [evCall_eq, lookI, evCode, evList, stepOne, opStep, evalO, putT, yieldT, Region.wanted, Tr.get_set, Tr.get, initT, ressV, resV, flatI, flat, depth, Mem.new, M0, Mem.live, Blk.alive, Mem.gen, rd, wr, loadV, storeV, addrOf, Value.cells, Mem.put, splice, isAggD, Value.oneCell', buildV, places, Instr.fill, partV, iter_succ, Tryd.f50, h1, ord]
    · by_cases h2 : b < a
      · simp [evCall_eq, lookI, evCode, evList, stepOne, opStep, evalO, putT, yieldT, Region.wanted, Tr.get_set, Tr.get, initT, ressV, resV, flatI, flat, depth, Mem.new, M0, Mem.live, Blk.alive, Mem.gen, rd, wr, loadV, storeV, addrOf, Value.cells, Mem.put, splice, isAggD, Value.oneCell', buildV, places, Instr.fill, partV, iter_succ, Tryd.f50, h1, h2, ord]
      · simp [evCall_eq, lookI, evCode, evList, stepOne, opStep, evalO, putT, yieldT, Region.wanted, Tr.get_set, Tr.get, initT, ressV, resV, flatI, flat, depth, Mem.new, M0, Mem.live, Blk.alive, Mem.gen, rd, wr, loadV, storeV, addrOf, Value.cells, Mem.put, splice, isAggD, Value.oneCell', buildV, places, Instr.fill, partV, iter_succ, Tryd.f50, h1, h2, ord]
  · cases h
def dMul : List Value → Option Value
  | [.int .u64 a, .int .u64 b] => if u64 a ∧ u64 b then some (.tuple #[.int .u64 (a * b / 18446744073709551616), .int .u64 (a * b % 18446744073709551616)]) else none
  | _ => none
theorem ok_mul : IntrOk Tryd.prog 51 (flatI dMul) := by
  refine flatC_ok fun args v h w => ?_
  unfold dMul at h
  split at h
  · rename_i a b
    split at h
    · rename_i hab
      cases h
      obtain ⟨⟨a0, a1⟩, b0, b1⟩ := hab
      obtain ⟨x, rfl⟩ := Int.eq_ofNat_of_zero_le a0
      obtain ⟨y, rfl⟩ := Int.eq_ofNat_of_zero_le b0
      refine (Any.bits_Mul64 Tryd.lays264 x y (by omega) (by omega) w).mono fun e w' => ?_
      rintro ⟨rfl, rfl⟩
      refine ⟨?_, Below.refl _ _⟩
      simp
    · cases h
  · cases h
def dStr : List Value → Option Value
  | [.string a, .string b] => some (.int .i64 (Lib.compareBytes a.data.toList b.data.toList))
  | _ => none
theorem ok_str : IntrOk Tryd.prog 35 (flatI dStr) := by
  refine flatC_ok fun args v h w => ?_
  unfold dStr at h
  split at h
  · rename_i a b
    cases h
    refine (Any.strings_Compare Tryd.lays106 a b w).mono fun e w' => ?_
    rintro ⟨rfl, rfl⟩
    exact ⟨rfl, Below.refl _ _⟩
  · cases h
/-- The low ones. -/
def L0 : List (FuncId × Intr) := (50, flatI dOrd) :: (51, flatI dMul) :: (35, flatI dStr) :: []
theorem L0_ok : AllOk B.P L0 := .cons ok_order <| .cons ok_mul <| .cons ok_str <| .nil _
def u128 (h l : Int) : Value := .agg #[.int .u64 h, .int .u64 l]
def dFull : List Value → Option Value
  | [.int .u64 a, .int .u64 b] => if u64 a ∧ u64 b then some (u128 (a * b / 18446744073709551616) (a * b % 18446744073709551616)) else none
  | _ => none
theorem map_ev {r : Option (Value × Mem)} {v : Value} (h : r.map (·.1) = some v) : ∃ H, r = some (v, H) := by
  obtain ⟨⟨a, b⟩, h1, h2⟩ := Option.map_eq_some_iff.1 h
  exact ⟨b, by rw [h1]; simp at h2; rw [h2]⟩
theorem ok_full : IntrOk Tryd.prog 34 (flatI dFull) := by
  refine flatI_ok B_ok L0_ok fun args v h => ?_
  unfold dFull at h
  split at h
  · rename_i a b
    split at h
    · rename_i hab
      cases h
      refine ⟨5, ?_⟩
      simp [evCall_eq, lookI, evCode, evList, stepOne, opStep, evalO, putT, yieldT, Region.wanted, Tr.get_set, Tr.get, initT, ressV, resV, flatI, flat, depth, Mem.new, M0, Mem.live, Blk.alive, Mem.gen, rd, wr, loadV, storeV, addrOf, Value.cells, Mem.put, splice, isAggD, Value.oneCell', buildV, places, Instr.fill, partV, iter_succ, L0, Tryd.f34, dMul, hab, u128]
      trace_state
    · cases h
  · cases h
theorem list2 {cs : Array Value} {a b : Value} (h : cs.toList = [a, b]) : cs = #[a, b] := Array.ext' (by simpa using h)
theorem list3 {cs : Array Value} {a b c : Value} (h : cs.toList = [a, b, c]) : cs = #[a, b, c] := Array.ext' (by simpa using h)
def as128 (v : Value) : Option (Int × Int) :=
  match v with
  | .agg cs =>
    match cs.toList with
    | [.int .u64 h, .int .u64 l] => some (h, l)
    | _ => none
  | _ => none
theorem as128_eq {v : Value} {h l : Int} (e : as128 v = some (h, l)) : v = u128 h l := by
  unfold as128 at e
  split at e
  · split at e
    · rename_i hl; cases e; rw [list2 hl]; rfl
    · cases e
  · cases e
def cmp128 (a b c d : Int) : Int := if ord a c ≠ 0 then ord a c else ord b d
def dCmp128 : List Value → Option Value
  | [x, y] =>
    match as128 x, as128 y with
    | some (a, b), some (c, d) => some (.int .i64 (cmp128 a b c d))
    | _, _ => none
  | _ => none
theorem ok_cmp128 : IntrOk Tryd.prog 33 (flatI dCmp128) := by
  refine flatI_ok B_ok L0_ok fun args v h => ?_
  unfold dCmp128 at h
  split at h
  · split at h
    · rename_i a b c d hx hy
      cases h
      rw [as128_eq hx, as128_eq hy]
      refine ⟨5, ?_⟩
      by_cases h1 : ord a c = 0
      · simp [evCall_eq, lookI, evCode, evList, stepOne, opStep, evalO, putT, yieldT, Region.wanted, Tr.get_set, Tr.get, initT, ressV, resV, flatI, flat, depth, Mem.new, M0, Mem.live, Blk.alive, Mem.gen, rd, wr, loadV, storeV, addrOf, Value.cells, Mem.put, splice, isAggD, Value.oneCell', buildV, places, Instr.fill, partV, iter_succ, L0, Tryd.f33, dOrd, u128, h1, cmp128]
      · simp [evCall_eq, lookI, evCode, evList, stepOne, opStep, evalO, putT, yieldT, Region.wanted, Tr.get_set, Tr.get, initT, ressV, resV, flatI, flat, depth, Mem.new, M0, Mem.live, Blk.alive, Mem.gen, rd, wr, loadV, storeV, addrOf, Value.cells, Mem.put, splice, isAggD, Value.oneCell', buildV, places, Instr.fill, partV, iter_succ, L0, Tryd.f33, dOrd, u128, h1, cmp128]
    · cases h
  · cases h
def item (k : ByteArray) (u w : Int) : Value := .agg #[.string k, .int .u64 u, .int .u64 w]
def asItem (v : Value) : Option (ByteArray × Int × Int) :=
  match v with
  | .agg cs =>
    match cs.toList with
    | [.string k, .int .u64 u, .int .u64 w] => if u64 u ∧ u64 w then some (k, u, w) else none
    | _ => none
  | _ => none
theorem asItem_eq {v : Value} {k : ByteArray} {u w : Int} (e : asItem v = some (k, u, w)) : v = item k u w ∧ u64 u ∧ u64 w := by
  unfold asItem at e
  split at e
  · split at e
    · rename_i hl
      split at e
      · rename_i hc; cases e; rw [list3 hl]; exact ⟨rfl, hc⟩
      · cases e
    · cases e
  · cases e
theorem asItem_item {k : ByteArray} {u w : Int} (hu : u64 u) (hw : u64 w) : asItem (item k u w) = some (k, u, w) := by simp [asItem, item, hu, hw]
def L1 : List (FuncId × Intr) := (34, flatI dFull) :: (33, flatI dCmp128) :: L0
theorem L1_ok : AllOk B.P L1 := .cons ok_full <| .cons ok_cmp128 <| L0_ok
def full (a b c d : Int) : Int := cmp128 (a * b / 18446744073709551616) (a * b % 18446744073709551616) (c * d / 18446744073709551616) (c * d % 18446744073709551616)
/-- Who stands ahead. -/
def rcmp (k : ByteArray) (u w : Int) (k' : ByteArray) (u' w' : Int) : Int := if full u w' u' w ≠ 0 then full u w' u' w else Lib.compareBytes k.data.toList k'.data.toList
def dRank : List Value → Option Value
  | [x, y] =>
    match asItem x, asItem y with
    | some (k, u, w), some (k', u', w') => some (.int .i64 (rcmp k u w k' u' w'))
    | _, _ => none
  | _ => none
theorem ok_rcmp : IntrOk Tryd.prog 18 (flatI dRank) := by
  refine flatI_ok B_ok L1_ok fun args v h => ?_
  unfold dRank at h
  split at h
  · split at h
    · rename_i k u w k' u' w' hx hy
      cases h
      obtain ⟨rfl, h1, h2⟩ := asItem_eq hx
      obtain ⟨rfl, h3, h4⟩ := asItem_eq hy
      refine ⟨8, ?_⟩
      by_cases h0 : cmp128 (u * w' / 18446744073709551616) (u * w' % 18446744073709551616) (u' * w / 18446744073709551616) (u' * w % 18446744073709551616) = 0
      · simp [evCall_eq, lookI, evCode, evList, stepOne, opStep, evalO, putT, yieldT, Region.wanted, Tr.get_set, Tr.get, initT, ressV, resV, flatI, flat, depth, Mem.new, M0, Mem.live, Blk.alive, Mem.gen, rd, wr, loadV, storeV, addrOf, Value.cells, Mem.put, splice, isAggD, Value.oneCell', buildV, places, Instr.fill, partV, iter_succ, L1, L0, Tryd.f18, Tryd.f32, dFull, dCmp128, as128, dStr, u128, item, h1, h2, h3, h4, h0, full, rcmp, evDraw, elemT, Tryd.underlying78, builtinV, goInt, idx]
        by_cases h5 : Lib.compareBytes k.data.toList k'.data.toList = 0
        · simp [evCall_eq, lookI, evCode, evList, stepOne, opStep, evalO, putT, yieldT, Region.wanted, Tr.get_set, Tr.get, initT, ressV, resV, flatI, flat, depth, Mem.new, M0, Mem.live, Blk.alive, Mem.gen, rd, wr, loadV, storeV, addrOf, Value.cells, Mem.put, splice, isAggD, Value.oneCell', buildV, places, Instr.fill, partV, iter_succ, h5]
        · simp [evCall_eq, lookI, evCode, evList, stepOne, opStep, evalO, putT, yieldT, Region.wanted, Tr.get_set, Tr.get, initT, ressV, resV, flatI, flat, depth, Mem.new, M0, Mem.live, Blk.alive, Mem.gen, rd, wr, loadV, storeV, addrOf, Value.cells, Mem.put, splice, isAggD, Value.oneCell', buildV, places, Instr.fill, partV, iter_succ, h5]
      · simp [evCall_eq, lookI, evCode, evList, stepOne, opStep, evalO, putT, yieldT, Region.wanted, Tr.get_set, Tr.get, initT, ressV, resV, flatI, flat, depth, Mem.new, M0, Mem.live, Blk.alive, Mem.gen, rd, wr, loadV, storeV, addrOf, Value.cells, Mem.put, splice, isAggD, Value.oneCell', buildV, places, Instr.fill, partV, iter_succ, L1, L0, Tryd.f18, Tryd.f32, dFull, dCmp128, as128, dStr, u128, item, h1, h2, h3, h4, h0, full, rcmp, evDraw, elemT, Tryd.underlying78, builtinV, goInt, idx]
    · cases h
  · cases h
end Go.Proofs.YtmndbhgbngkakaaDoor.Z
