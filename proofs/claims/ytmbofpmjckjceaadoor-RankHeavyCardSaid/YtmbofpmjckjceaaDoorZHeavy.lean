/- RankHeavy yields true for every item and every weight. No condition. -/
import Derived.Test.YtmbofpmjckjceaaDoorZ2
namespace Go.Proofs.YtmbofpmjckjceaaDoor.Z
open Go Go.RowKit Go.Proofs.YtmbofpmjckjceaaDoor.E
set_option linter.unusedVariables false
set_option linter.unusedSimpArgs false
theorem heavy_ev (k : ByteArray) (u w v : Int) (hu : u64 u) (hw : u64 w) (hv : u64 v) : ∃ n H1, evCall (B.env L2) n 5 #[item k u w, .int .u64 v] M0 = some (.bool true, H1) := by
  refine ⟨9, ?_⟩
  have i1 := asItem_item (k := k) hu hw
  have i2 := asItem_item (k := k) hu hv
  unfold item at i1 i2 ⊢
  by_cases h1 : chk k w = 0
  · by_cases h2 : v ≤ w
    · simp [evCall_eq, lookI, evCode, evList, stepOne, opStep, evalO, putT, yieldT, Region.wanted, Tr.get_set, Tr.get, initT, ressV, resV, flatI, flat, depth, Mem.new, M0, Mem.live, Blk.alive, Mem.gen, rd, wr, loadV, storeV, addrOf, Value.cells, Mem.put, splice, isAggD, Value.oneCell', buildV, places, Instr.fill, partV, iter_succ, L2, L1, L0, Tryd.f5, dChk, dTrue, i1, h1, h2, Tryd.underlying24]
    · have hf := full_ord hu hw hu hv
      by_cases h3 : 0 < u
      · have hlt : u * w < u * v := Int.mul_lt_mul_of_pos_left (by omega) h3
        rw [ord_lt hlt] at hf
        have hr : rcmp k u v k u w = -1 := by unfold rcmp; rw [hf]; simp
        simp [evCall_eq, lookI, evCode, evList, stepOne, opStep, evalO, putT, yieldT, Region.wanted, Tr.get_set, Tr.get, initT, ressV, resV, flatI, flat, depth, Mem.new, M0, Mem.live, Blk.alive, Mem.gen, rd, wr, loadV, storeV, addrOf, Value.cells, Mem.put, splice, isAggD, Value.oneCell', buildV, places, Instr.fill, partV, iter_succ, L2, L1, L0, Tryd.f5, dChk, dTrue, dRank, i1, i2, h1, h2, h3, hr, Tryd.underlying24, evDraw, bin_eqb Tryd.underlying4]
      · have h0 : u = 0 := by have := hu.1; omega
        have hr : rcmp k u v k u w = 0 := by unfold rcmp; rw [hf, h0]; simp [ord_self, compare_self]
        simp [evCall_eq, lookI, evCode, evList, stepOne, opStep, evalO, putT, yieldT, Region.wanted, Tr.get_set, Tr.get, initT, ressV, resV, flatI, flat, depth, Mem.new, M0, Mem.live, Blk.alive, Mem.gen, rd, wr, loadV, storeV, addrOf, Value.cells, Mem.put, splice, isAggD, Value.oneCell', buildV, places, Instr.fill, partV, iter_succ, L2, L1, L0, Tryd.f5, dChk, dTrue, dRank, i1, i2, h1, h2, h3, hr, Tryd.underlying24, evDraw, bin_eqb Tryd.underlying4]
  · simp [evCall_eq, lookI, evCode, evList, stepOne, opStep, evalO, putT, yieldT, Region.wanted, Tr.get_set, Tr.get, initT, ressV, resV, flatI, flat, depth, Mem.new, M0, Mem.live, Blk.alive, Mem.gen, rd, wr, loadV, storeV, addrOf, Value.cells, Mem.put, splice, isAggD, Value.oneCell', buildV, places, Instr.fill, partV, iter_succ, L2, L1, L0, Tryd.f5, dChk, dTrue, i1, h1, Tryd.underlying24]
/-- What its row asks for. -/
theorem RankHeavy_calls (k : ByteArray) (u w v : Int) (hu : (Lit.int .u64 u).wf = true) (hw : (Lit.int .u64 w).wf = true) (hv : (Lit.int .u64 v).wf = true) (W : World) :
    Calls Tryd.prog 5 #[.agg #[.string k, .int .u64 u, .int .u64 w], .int .u64 v] W (fun e w' => e = .returned (.bool true) ∧ Below W.heap.size W w') := by
  obtain ⟨n, H1, h⟩ := heavy_ev k u w v (u64_of hu) (u64_of hw) (u64_of hv)
  refine law_calls (E := B.env L2) (fun base => B.sound B_ok L2_ok base) h rfl (Rl.m0 W) (fun i m h => by cases h) ?_
  exact (VRs.nil _).cons (.int _ _) |>.cons (VR.of_flat _ depth rfl)
end Go.Proofs.YtmbofpmjckjceaaDoor.Z
