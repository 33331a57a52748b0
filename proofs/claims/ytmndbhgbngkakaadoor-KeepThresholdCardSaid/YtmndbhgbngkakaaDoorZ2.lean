/- Layer 10: whether an item may be, the fixed answer, and numbers. No condition. -/
import Derived.Test.YtmndbhgbngkakaaDoorZ1
namespace Go.Proofs.YtmndbhgbngkakaaDoor.Z
open Go Go.RowKit Go.Proofs.YtmndbhgbngkakaaDoor.E
set_option linter.all false

def chk (k : ByteArray) (w : Int) : Int := if 64 < (k.size : Int) then 5 else if w = 0 then 7 else 0
def dChk : List Value → Option Value
  | [x] =>
    match asItem x with
    | some (k, u, w) => some (.int .i64 (chk k w))
    | _ => none
  | _ => none
theorem ok_chk : IntrOk Tryd.prog 11 (flatI dChk) := by
  refine flatI_ok B_ok (.nil _) fun args v h => ?_
  unfold dChk at h
  split at h
  · split at h
    · rename_i k u w hx
      cases h
      obtain ⟨rfl, h1, h2⟩ := asItem_eq hx
      refine ⟨5, ?_⟩
      by_cases h3 : 64 < (k.size : Int)
      · simp [evCall_eq, lookI, evCode, evList, stepOne, opStep, evalO, putT, yieldT, Region.wanted, Tr.get_set, Tr.get, initT, ressV, resV, flatI, flat, depth, Mem.new, M0, Mem.live, Blk.alive, Mem.gen, rd, wr, loadV, storeV, addrOf, Value.cells, Mem.put, splice, isAggD, Value.oneCell', buildV, places, Instr.fill, partV, iter_succ, Tryd.f11, item, chk, h3, Tryd.underlying30, Tryd.underlying9, Tryd.underlying28, builtinV, goInt]
      · by_cases h4 : w = 0
        · simp [evCall_eq, lookI, evCode, evList, stepOne, opStep, evalO, putT, yieldT, Region.wanted, Tr.get_set, Tr.get, initT, ressV, resV, flatI, flat, depth, Mem.new, M0, Mem.live, Blk.alive, Mem.gen, rd, wr, loadV, storeV, addrOf, Value.cells, Mem.put, splice, isAggD, Value.oneCell', buildV, places, Instr.fill, partV, iter_succ, Tryd.f11, item, chk, h3, h4, Tryd.underlying30, Tryd.underlying9, Tryd.underlying28, builtinV, goInt]
        · simp [evCall_eq, lookI, evCode, evList, stepOne, opStep, evalO, putT, yieldT, Region.wanted, Tr.get_set, Tr.get, initT, ressV, resV, flatI, flat, depth, Mem.new, M0, Mem.live, Blk.alive, Mem.gen, rd, wr, loadV, storeV, addrOf, Value.cells, Mem.put, splice, isAggD, Value.oneCell', buildV, places, Instr.fill, partV, iter_succ, Tryd.f11, item, chk, h3, h4, Tryd.underlying30, Tryd.underlying9, Tryd.underlying28, builtinV, goInt]
    · cases h
  · cases h
def dTrue : List Value → Option Value
  | [] => some (.bool true)
  | _ => none
/-! ### Numbers -/
theorem full_ord {a b c d : Int} (ha : u64 a) (hb : u64 b) (hc : u64 c) (hd : u64 d) : full a b c d = ord (a * b) (c * d) := by
  obtain ⟨a0, a1⟩ := ha
  obtain ⟨b0, b1⟩ := hb
  obtain ⟨c0, c1⟩ := hc
  obtain ⟨d0, d1⟩ := hd
  unfold full cmp128 ord
  generalize a * b = p
  generalize c * d = q
  repeat' split
  all_goals first | rfl | omega
def L2 : List (FuncId × Intr) := (18, flatI dRank) :: (11, flatI dChk) :: L1
theorem L2_ok : AllOk B.P L2 := .cons ok_rcmp <| .cons ok_chk <| L1_ok
end Go.Proofs.YtmndbhgbngkakaaDoor.Z
