-- Printed by this session's own program out of the translation.
import Derived.Test.YtecbbenfcepohaaDoorRows
import Derived.Test.YtecbbenfcepohaaDoorVRatOrder
import Derived.Test.YtecbbenfcepohaaDoorPureRatOrder
import Derived.WalkKit
import Derived.ProofKit
import Derived.OpenShut
import Derived.ShutString
import Derived.ChangeOld
import Derived.Below
import Derived.SizedLaws
import Derived.LaidMore
import Derived.Lay
import Derived.SevenTiedAt
import Derived.Stop.Joined
import Derived.Lib.SmallJoins
import Derived.Test.YtecbbenfcepohaaDoorCards
import Derived.Test.YtecbbenfcepohaaDoorTie
import Derived.Test.YtecbbenfcepohaaDoorYAll
namespace Go.Proofs.YtecbbenfcepohaaDoor.ratOrder
open Go.ChangeShapes Go.WideShapes Go.ChangeAt Go.RowKit Go.Proofs.YtecbbenfcepohaaDoorW.PrintWords Go.Proofs.YtecbbenfcepohaaDoorW.PrintLast
open Go.ChangeMaps (open_string shut_string)
set_option linter.unusedVariables false
set_option linter.unusedSimpArgs false
theorem own : ownKnob Tryd.prog.godebug = none := by kernel_rfl
theorem laidOut : laidOutB Tryd.prog = true := by kernel_rfl
def IsRow (k : IntKind) (w : World) (a : Option Addr) (len cap : Nat) (zs : List Int) : Prop :=
  (a = none ∧ len = 0 ∧ cap = 0 ∧ zs = []) ∨
  ∃ x, a = some x ∧ len ≤ cap ∧ cap ≤ maxLen ∧ zs.length = cap ∧ (∀ i, i < zs.length → w.cell? (x.add i) = some (.int k (zs.getD i 0))) ∧ ∀ n ∈ zs, (Lit.int k n).wf = true
set_option maxRecDepth 100000 in
theorem lifted (os : Os) (started : os.Started) (H : Type) (enc : TypeId × Value → H) :
    ReturnsInHanded {} Tryd.checked os 4 .any (fun w args => (Rows.ratOrderSpec.pre enc Tryd.prog Tryd.f4 Rows.ratOrderRow.domain false w args ∧ laidMetH Tryd.prog Rows.ratOrderRow.laid w) ∧ sizedMet enc Tryd.prog Tryd.f4 (OpenSpec.ofChange Rows.ratOrderSpec) false w args) (Rows.ratOrderSpec.post enc Tryd.prog Tryd.f4 false true false false) := by
  refine returnsInHanded_of_change_and (C := Tryd.checked) (X := fun w _ => laidMetH Tryd.prog Rows.ratOrderRow.laid w) (fun _ _ _ hh h => h.of_heap hh) own started (by kernel_rfl) Tryd.func4
    (ChangeSpec.witness_shaped (enc := enc) (C := Tryd.checked) (os := os) (X := fun w _ => laidMetH Tryd.prog Rows.ratOrderRow.laid w) false (World.laidAll Tryd.prog os Rows.ratOrderRow.laid) #[.agg #[.slice none 0 0, .slice none 0 0], .agg #[.slice none 0 0, .slice none 0 0], .agg #[.slice none 0 0, .slice none 0 0]] 8 (World.laidAll_os _ _ _)
      (World.shaped_of_ZipB (by kernel_rfl) (by kernel_rfl)) (by kernel_rfl) (by kernel_rfl) (by kernel_rfl)
      (by rw [MakeChecks.laidMetH_plain _ _ _ (by kernel_rfl)]; exact laidMet_laidAll _ (by kernel_rfl) (by kernel_rfl))) ?_
  intro W base args ds gs before hval0 hW hcnd hsz0 hL _
  have hsz : (DataW.weightsEach Tryd.prog (Tryd.f4.params.toList ++ Rows.ratOrderSpec.plain.varTypes Tryd.prog) (ds ++ gs)).all (· ≤ reachBytes) = true := hsz0
  have hval : ∀ (j : Nat) t v, Tryd.f4.params[j]? = some t → args[j]? = some v → Value.okWide Tryd.prog W .any base t v := hval0
  have hW' := hW
  obtain ⟨p, q, hA0, hV, rfl, hfz, hnd⟩ := hW
  have hA : DataW.TrodAll enc Tryd.prog W 0 (fun _ => true) true Tryd.f4.params.toList args.toList ds p := hA0
  rw [Tryd.params4] at hA hval hsz
  obtain ⟨v0, vs0, d0, ds0, p0, q0, hargs, rfl, rfl, h0, r0⟩ := trodAll_cons hA
  obtain ⟨v1, vs1, d1, ds1, p1, q1, rfl, rfl, rfl, h1, r1⟩ := trodAll_cons r0
  obtain ⟨v2, vs2, d2, ds2, p2, q2, rfl, rfl, rfl, h2, r2⟩ := trodAll_cons r1
  obtain ⟨rfl, rfl, rfl⟩ := trodAll_nil r2
  obtain rfl : args = #[v0, v1, v2] := by cases args; simp_all
  obtain ⟨rfl, rfl⟩ := trodVars_none hV
  have k0 := h0
  have lt0 : ∀ x ∈ p0, x.block < W.heap.size := by obtain ⟨m, hm⟩ := k0; exact DataW.trod_lt m _ _ _ hm
  obtain ⟨u0_0, u0_1, r0_0, r0_1, n0, rfl, rfl, rfl, f0_0, f0_1⟩ := Go.Joins.open_agg2 Tryd.underlying27 (by kernel_rfl) (by kernel_rfl) (hval 0 27 v0 rfl rfl) h0
  have hz0 : (DataW.weightsEach Tryd.prog [23, 23] [r0_0.1, r0_1.1]).all (· ≤ reachBytes) = true := List.all_eq_true.2 fun n hn => List.all_eq_true.1 hsz n (DataW.weights_mem_each (j := 0) (t := 27) rfl rfl n (by simp only [DataW.weights, Tryd.underlying27]; exact hn))
  obtain ⟨a0_0, len0_0, cap0_0, e0_0⟩ := Go.Joins.slice_form Tryd.underlying23 f0_0
  obtain rfl : u0_0 = .slice a0_0 len0_0 cap0_0 := by simpa using e0_0
  obtain ⟨z0_0, w0_0⟩ : ∃ zs, IsRow .u32 W a0_0 len0_0 cap0_0 zs := by
    rcases open_ints Tryd.underlying23 Tryd.underlying34 (by kernel_rfl) f0_0 with ⟨hcs, _⟩ | ⟨x, l, c, zs, hcs, _, hl, hm, hz, _, hcell, hwz⟩
    · simp [Value.cells] at hcs
      obtain ⟨rfl, rfl, rfl⟩ := hcs
      exact ⟨[], .inl ⟨rfl, rfl, rfl, rfl⟩⟩
    · simp [Value.cells] at hcs
      obtain ⟨rfl, rfl, rfl⟩ := hcs
      exact ⟨zs, .inr ⟨_, rfl, hl, hm, by simpa using hz, hcell, hwz⟩⟩
  have y0_0 : len0_0 * 4 ≤ 140737488351232 := Go.Proofs.YtecbbenfcepohaaDoorW.PrintWords.sized_ints hz0 (j := 0) (t := 23) rfl rfl Tryd.underlying23 Tryd.underlying34 (by kernel_rfl) (by kernel_rfl) ⟨_, f0_0⟩
  obtain ⟨l0_0, rfl, hr0_0, hm0_0, hw0_0, hc0_0⟩ := ReadsInt.ofRowC w0_0
  obtain ⟨a0_1, len0_1, cap0_1, e0_1⟩ := Go.Joins.slice_form Tryd.underlying23 f0_1
  obtain rfl : u0_1 = .slice a0_1 len0_1 cap0_1 := by simpa using e0_1
  obtain ⟨z0_1, w0_1⟩ : ∃ zs, IsRow .u32 W a0_1 len0_1 cap0_1 zs := by
    rcases open_ints Tryd.underlying23 Tryd.underlying34 (by kernel_rfl) f0_1 with ⟨hcs, _⟩ | ⟨x, l, c, zs, hcs, _, hl, hm, hz, _, hcell, hwz⟩
    · simp [Value.cells] at hcs
      obtain ⟨rfl, rfl, rfl⟩ := hcs
      exact ⟨[], .inl ⟨rfl, rfl, rfl, rfl⟩⟩
    · simp [Value.cells] at hcs
      obtain ⟨rfl, rfl, rfl⟩ := hcs
      exact ⟨zs, .inr ⟨_, rfl, hl, hm, by simpa using hz, hcell, hwz⟩⟩
  have y0_1 : len0_1 * 4 ≤ 140737488351232 := Go.Proofs.YtecbbenfcepohaaDoorW.PrintWords.sized_ints hz0 (j := 1) (t := 23) rfl rfl Tryd.underlying23 Tryd.underlying34 (by kernel_rfl) (by kernel_rfl) ⟨_, f0_1⟩
  obtain ⟨l0_1, rfl, hr0_1, hm0_1, hw0_1, hc0_1⟩ := ReadsInt.ofRowC w0_1
  have k1 := h1
  have lt1 : ∀ x ∈ p1, x.block < W.heap.size := by obtain ⟨m, hm⟩ := k1; exact DataW.trod_lt m _ _ _ hm
  obtain ⟨u1_0, u1_1, r1_0, r1_1, n1, rfl, rfl, rfl, f1_0, f1_1⟩ := Go.Joins.open_agg2 Tryd.underlying27 (by kernel_rfl) (by kernel_rfl) (hval 1 27 v1 rfl rfl) h1
  have hz1 : (DataW.weightsEach Tryd.prog [23, 23] [r1_0.1, r1_1.1]).all (· ≤ reachBytes) = true := List.all_eq_true.2 fun n hn => List.all_eq_true.1 hsz n (DataW.weights_mem_each (j := 1) (t := 27) rfl rfl n (by simp only [DataW.weights, Tryd.underlying27]; exact hn))
  obtain ⟨a1_0, len1_0, cap1_0, e1_0⟩ := Go.Joins.slice_form Tryd.underlying23 f1_0
  obtain rfl : u1_0 = .slice a1_0 len1_0 cap1_0 := by simpa using e1_0
  obtain ⟨z1_0, w1_0⟩ : ∃ zs, IsRow .u32 W a1_0 len1_0 cap1_0 zs := by
    rcases open_ints Tryd.underlying23 Tryd.underlying34 (by kernel_rfl) f1_0 with ⟨hcs, _⟩ | ⟨x, l, c, zs, hcs, _, hl, hm, hz, _, hcell, hwz⟩
    · simp [Value.cells] at hcs
      obtain ⟨rfl, rfl, rfl⟩ := hcs
      exact ⟨[], .inl ⟨rfl, rfl, rfl, rfl⟩⟩
    · simp [Value.cells] at hcs
      obtain ⟨rfl, rfl, rfl⟩ := hcs
      exact ⟨zs, .inr ⟨_, rfl, hl, hm, by simpa using hz, hcell, hwz⟩⟩
  have y1_0 : len1_0 * 4 ≤ 140737488351232 := Go.Proofs.YtecbbenfcepohaaDoorW.PrintWords.sized_ints hz1 (j := 0) (t := 23) rfl rfl Tryd.underlying23 Tryd.underlying34 (by kernel_rfl) (by kernel_rfl) ⟨_, f1_0⟩
  obtain ⟨l1_0, rfl, hr1_0, hm1_0, hw1_0, hc1_0⟩ := ReadsInt.ofRowC w1_0
  obtain ⟨a1_1, len1_1, cap1_1, e1_1⟩ := Go.Joins.slice_form Tryd.underlying23 f1_1
  obtain rfl : u1_1 = .slice a1_1 len1_1 cap1_1 := by simpa using e1_1
  obtain ⟨z1_1, w1_1⟩ : ∃ zs, IsRow .u32 W a1_1 len1_1 cap1_1 zs := by
    rcases open_ints Tryd.underlying23 Tryd.underlying34 (by kernel_rfl) f1_1 with ⟨hcs, _⟩ | ⟨x, l, c, zs, hcs, _, hl, hm, hz, _, hcell, hwz⟩
    · simp [Value.cells] at hcs
      obtain ⟨rfl, rfl, rfl⟩ := hcs
      exact ⟨[], .inl ⟨rfl, rfl, rfl, rfl⟩⟩
    · simp [Value.cells] at hcs
      obtain ⟨rfl, rfl, rfl⟩ := hcs
      exact ⟨zs, .inr ⟨_, rfl, hl, hm, by simpa using hz, hcell, hwz⟩⟩
  have y1_1 : len1_1 * 4 ≤ 140737488351232 := Go.Proofs.YtecbbenfcepohaaDoorW.PrintWords.sized_ints hz1 (j := 1) (t := 23) rfl rfl Tryd.underlying23 Tryd.underlying34 (by kernel_rfl) (by kernel_rfl) ⟨_, f1_1⟩
  obtain ⟨l1_1, rfl, hr1_1, hm1_1, hw1_1, hc1_1⟩ := ReadsInt.ofRowC w1_1
  have k2 := h2
  have lt2 : ∀ x ∈ p2, x.block < W.heap.size := by obtain ⟨m, hm⟩ := k2; exact DataW.trod_lt m _ _ _ hm
  obtain ⟨u2_0, u2_1, r2_0, r2_1, n2, rfl, rfl, rfl, f2_0, f2_1⟩ := Go.Joins.open_agg2 Tryd.underlying27 (by kernel_rfl) (by kernel_rfl) (hval 2 27 v2 rfl rfl) h2
  have hz2 : (DataW.weightsEach Tryd.prog [23, 23] [r2_0.1, r2_1.1]).all (· ≤ reachBytes) = true := List.all_eq_true.2 fun n hn => List.all_eq_true.1 hsz n (DataW.weights_mem_each (j := 2) (t := 27) rfl rfl n (by simp only [DataW.weights, Tryd.underlying27]; exact hn))
  obtain ⟨a2_0, len2_0, cap2_0, e2_0⟩ := Go.Joins.slice_form Tryd.underlying23 f2_0
  obtain rfl : u2_0 = .slice a2_0 len2_0 cap2_0 := by simpa using e2_0
  obtain ⟨z2_0, w2_0⟩ : ∃ zs, IsRow .u32 W a2_0 len2_0 cap2_0 zs := by
    rcases open_ints Tryd.underlying23 Tryd.underlying34 (by kernel_rfl) f2_0 with ⟨hcs, _⟩ | ⟨x, l, c, zs, hcs, _, hl, hm, hz, _, hcell, hwz⟩
    · simp [Value.cells] at hcs
      obtain ⟨rfl, rfl, rfl⟩ := hcs
      exact ⟨[], .inl ⟨rfl, rfl, rfl, rfl⟩⟩
    · simp [Value.cells] at hcs
      obtain ⟨rfl, rfl, rfl⟩ := hcs
      exact ⟨zs, .inr ⟨_, rfl, hl, hm, by simpa using hz, hcell, hwz⟩⟩
  have y2_0 : len2_0 * 4 ≤ 140737488351232 := Go.Proofs.YtecbbenfcepohaaDoorW.PrintWords.sized_ints hz2 (j := 0) (t := 23) rfl rfl Tryd.underlying23 Tryd.underlying34 (by kernel_rfl) (by kernel_rfl) ⟨_, f2_0⟩
  obtain ⟨l2_0, rfl, hr2_0, hm2_0, hw2_0, hc2_0⟩ := ReadsInt.ofRowC w2_0
  obtain ⟨a2_1, len2_1, cap2_1, e2_1⟩ := Go.Joins.slice_form Tryd.underlying23 f2_1
  obtain rfl : u2_1 = .slice a2_1 len2_1 cap2_1 := by simpa using e2_1
  obtain ⟨z2_1, w2_1⟩ : ∃ zs, IsRow .u32 W a2_1 len2_1 cap2_1 zs := by
    rcases open_ints Tryd.underlying23 Tryd.underlying34 (by kernel_rfl) f2_1 with ⟨hcs, _⟩ | ⟨x, l, c, zs, hcs, _, hl, hm, hz, _, hcell, hwz⟩
    · simp [Value.cells] at hcs
      obtain ⟨rfl, rfl, rfl⟩ := hcs
      exact ⟨[], .inl ⟨rfl, rfl, rfl, rfl⟩⟩
    · simp [Value.cells] at hcs
      obtain ⟨rfl, rfl, rfl⟩ := hcs
      exact ⟨zs, .inr ⟨_, rfl, hl, hm, by simpa using hz, hcell, hwz⟩⟩
  have y2_1 : len2_1 * 4 ≤ 140737488351232 := Go.Proofs.YtecbbenfcepohaaDoorW.PrintWords.sized_ints hz2 (j := 1) (t := 23) rfl rfl Tryd.underlying23 Tryd.underlying34 (by kernel_rfl) (by kernel_rfl) ⟨_, f2_1⟩
  obtain ⟨l2_1, rfl, hr2_1, hm2_1, hw2_1, hc2_1⟩ := ReadsInt.ofRowC w2_1
  clear hA0 hval0 hsz0 hsz
  obtain ⟨k, h⟩ := Pure.RatOrder l0_0 l0_1 l1_0 l1_1 l2_0 l2_1 hm0_0 y0_0 hw0_0 hm0_1 y0_1 hw0_1 hm1_0 y1_0 hw1_0 hm1_1 y1_1 hw1_1 hm2_0 y2_0 hw2_0 hm2_1 y2_1 hw2_1
  refine (V.samphirelaw03_RatOrder.sc k _ _ l0_0 _ _ l0_1 _ _ l1_0 _ _ l1_1 _ _ l2_0 _ _ l2_1 true W ⟨hc0_0, Kd.C_of_reads (d := (0 : Int)) (h1 := fun _ => rfl) hr0_0⟩ ⟨hc0_1, Kd.C_of_reads (d := (0 : Int)) (h1 := fun _ => rfl) hr0_1⟩ ⟨hc1_0, Kd.C_of_reads (d := (0 : Int)) (h1 := fun _ => rfl) hr1_0⟩ ⟨hc1_1, Kd.C_of_reads (d := (0 : Int)) (h1 := fun _ => rfl) hr1_1⟩ ⟨hc2_0, Kd.C_of_reads (d := (0 : Int)) (h1 := fun _ => rfl) hr2_0⟩ ⟨hc2_1, Kd.C_of_reads (d := (0 : Int)) (h1 := fun _ => rfl) hr2_1⟩ ⟨h⟩).mono ?_
  rintro e W' ⟨rfl, bel⟩
  exact ⟨_, rfl, _, _, _, [], _, [], hW', trodAll_mk1 (shut_bool Tryd.underlying4 _), (trodAll_cons_mk (Below.trod laidOut (by kernel_rfl) (of_decide_eq_true (by kernel_rfl)) k0 bel lt0) (trodAll_cons_mk (Below.trod laidOut (by kernel_rfl) (of_decide_eq_true (by kernel_rfl)) k1 bel lt1) (trodAll_cons_mk (Below.trod laidOut (by kernel_rfl) (of_decide_eq_true (by kernel_rfl)) k2 bel lt2) trodAll_mk0))), rfl, bel.frame _, fun h => by cases h⟩
theorem over : Rows.ratOrderRow.holds Tryd.pinned (OpenSpec.ofChange Rows.ratOrderSpec) :=
  OpenClaim.holds_of_wide 4 Tryd.f4 rfl rfl rfl rfl rfl rfl rfl ⟨rfl, rfl, rfl, rfl, rfl⟩ rfl rfl rfl rfl rfl (by kernel_rfl) Tryd.func4 (by kernel_rfl)
    (of_decide_eq_true (by kernel_rfl)) (by unfold Func.isWrapper; first | (rw [if_pos (by decide +kernel)]; kernel_rfl) | (rw [if_neg (by decide +kernel)]; exact ⟨rfl, rfl⟩))
    (fun os started H enc _ => lifted os started H enc)
theorem proved : Rows.RatOrderSaid := over
#print axioms proved
end Go.Proofs.YtecbbenfcepohaaDoor.ratOrder
namespace Go.Proofs.YtecbbenfcepohaaDoor
/-- The row, under a short name, for the claim. -/
theorem ratOrder_row_holds : Rows.RatOrderSaid := ratOrder.proved
/-- The card: what counts. -/
theorem ratOrder_holds : Rows.RatOrderCardSaid :=
  Claim7.holds_tied_plain_at .later [] [.data, .pinned] true (true, "561c7a72ddfbd453f68a2f4ceb841e55fbe129854096ae621a7def2dd925f557") false ratOrder_row_holds (fun _ h => by cases h) (by kernel_rfl) (fun _ h => by cases h) ratOrder_row_tie rfl ⟨rfl, rfl⟩ (by kernel_rfl) rfl
    (fun f fn hf hfn => by
      obtain rfl : f = 4 := Option.some.inj ((show Tryd.prog.funcNamed "samphire/samphirelaw03.RatOrder" = some 4 by kernel_rfl).symm.trans hf) |>.symm
      obtain rfl : fn = Tryd.f4 := (Option.some.inj (Tryd.func4.symm.trans hfn)).symm
      exact ⟨by kernel_rfl, fun j t ht => by
        rw [Tryd.params4] at ht
        have hm : t ∈ [27, 27, 27] := by simpa using Array.mem_of_getElem? ht
        have hall : ([27, 27, 27].all fun u => !Tryd.prog.wantsStandIn u) = true := by kernel_rfl
        exact (show Tryd.prog.wantsStandIn t = false by simpa using List.all_eq_true.1 hall t hm)⟩)
    (by kernel_rfl)
#print axioms ratOrder_holds
end Go.Proofs.YtecbbenfcepohaaDoor
