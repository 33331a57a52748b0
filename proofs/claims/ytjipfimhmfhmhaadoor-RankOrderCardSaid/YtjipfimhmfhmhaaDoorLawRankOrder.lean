-- Printed by this session's own program out of the translation.
import Derived.Test.YtjipfimhmfhmhaaDoorRows
import Derived.Test.YtjipfimhmfhmhaaDoorZOrder
import Derived.WalkKit
import Derived.ProofKit
import Derived.OpenShut
import Derived.ShutString
import Derived.ChangeOld
import Derived.Below
import Derived.SizedLaws
import Derived.LaidMore
import Derived.Lay
import Derived.SevenTiedAt
import Derived.Stop.Joined
import Derived.Lib.SmallJoins
import Derived.Test.YtjipfimhmfhmhaaDoorCards
import Derived.Test.YtjipfimhmfhmhaaDoorTie
namespace Go.Proofs.YtjipfimhmfhmhaaDoor.rankOrder
open Go.ChangeShapes Go.WideShapes Go.ChangeAt Go.RowKit
open Go.ChangeMaps (open_string shut_string)
set_option linter.unusedVariables false
set_option linter.unusedSimpArgs false
theorem own : ownKnob Tryd.prog.godebug = none := by kernel_rfl
theorem laidOut : laidOutB Tryd.prog = true := by kernel_rfl
def IsRow (k : IntKind) (w : World) (a : Option Addr) (len cap : Nat) (zs : List Int) : Prop :=
  (a = none ∧ len = 0 ∧ cap = 0 ∧ zs = []) ∨
  ∃ x, a = some x ∧ len ≤ cap ∧ cap ≤ maxLen ∧ zs.length = cap ∧ (∀ i, i < zs.length → w.cell? (x.add i) = some (.int k (zs.getD i 0))) ∧ ∀ n ∈ zs, (Lit.int k n).wf = true
set_option maxRecDepth 100000 in
theorem lifted (os : Os) (started : os.Started) (H : Type) (enc : TypeId × Value → H) :
    ReturnsInHanded {} Tryd.checked os 8 .any (fun w args => (Rows.rankOrderSpec.pre enc Tryd.prog Tryd.f8 Rows.rankOrderRow.domain false w args ∧ laidMetH Tryd.prog Rows.rankOrderRow.laid w) ∧ sizedMet enc Tryd.prog Tryd.f8 (OpenSpec.ofChange Rows.rankOrderSpec) false w args) (Rows.rankOrderSpec.post enc Tryd.prog Tryd.f8 false true false false) := by
  refine returnsInHanded_of_change_and (C := Tryd.checked) (X := fun w _ => laidMetH Tryd.prog Rows.rankOrderRow.laid w) (fun _ _ _ hh h => h.of_heap hh) own started (by kernel_rfl) Tryd.func8
    (ChangeSpec.witness_shaped (enc := enc) (C := Tryd.checked) (os := os) (X := fun w _ => laidMetH Tryd.prog Rows.rankOrderRow.laid w) false (World.laidAll Tryd.prog os Rows.rankOrderRow.laid) #[.agg #[.string ByteArray.empty, .int .u64 0, .int .u64 0], .agg #[.string ByteArray.empty, .int .u64 0, .int .u64 0], .agg #[.string ByteArray.empty, .int .u64 0, .int .u64 0]] 8 (World.laidAll_os _ _ _)
      (World.shaped_of_ZipB (by kernel_rfl) (by kernel_rfl)) (by kernel_rfl) (by kernel_rfl) (by kernel_rfl)
      (by rw [MakeChecks.laidMetH_plain _ _ _ (by kernel_rfl)]; exact laidMet_laidAll _ (by kernel_rfl) (by kernel_rfl))) ?_
  intro W base args ds gs before hval0 hW hcnd hsz0 hL _
  have hsz : (DataW.weightsEach Tryd.prog (Tryd.f8.params.toList ++ Rows.rankOrderSpec.plain.varTypes Tryd.prog) (ds ++ gs)).all (· ≤ reachBytes) = true := hsz0
  have hval : ∀ (j : Nat) t v, Tryd.f8.params[j]? = some t → args[j]? = some v → Value.okWide Tryd.prog W .any base t v := hval0
  have hW' := hW
  obtain ⟨p, q, hA0, hV, rfl, hfz, hnd⟩ := hW
  have hA : DataW.TrodAll enc Tryd.prog W 0 (fun _ => true) true Tryd.f8.params.toList args.toList ds p := hA0
  rw [Tryd.params8] at hA hval hsz
  obtain ⟨v0, vs0, d0, ds0, p0, q0, hargs, rfl, rfl, h0, r0⟩ := trodAll_cons hA
  obtain ⟨v1, vs1, d1, ds1, p1, q1, rfl, rfl, rfl, h1, r1⟩ := trodAll_cons r0
  obtain ⟨v2, vs2, d2, ds2, p2, q2, rfl, rfl, rfl, h2, r2⟩ := trodAll_cons r1
  obtain ⟨rfl, rfl, rfl⟩ := trodAll_nil r2
  obtain rfl : args = #[v0, v1, v2] := by cases args; simp_all
  obtain ⟨rfl, rfl⟩ := trodVars_none hV
  have k0 := h0
  have lt0 : ∀ x ∈ p0, x.block < W.heap.size := by obtain ⟨m, hm⟩ := k0; exact DataW.trod_lt m _ _ _ hm
  obtain ⟨u0_0, u0_1, u0_2, r0_0, r0_1, r0_2, n0, rfl, rfl, rfl, f0_0, f0_1, f0_2⟩ := Go.Joins.open_agg3 Tryd.underlying24 (by kernel_rfl) (by kernel_rfl) (hval 0 24 v0 rfl rfl) h0
  obtain ⟨a0_0, e0_0, g0_0, y0_0⟩ := DataW.trod_string Tryd.underlying9 f0_0
  obtain rfl : u0_0 = .string a0_0 := by simpa using e0_0
  obtain ⟨a0_1, e0_1, g0_1, w0_1⟩ := DataW.trod_int Tryd.underlying22 f0_1
  obtain rfl : u0_1 = .int .u64 a0_1 := by simpa using e0_1
  obtain ⟨a0_2, e0_2, g0_2, w0_2⟩ := DataW.trod_int Tryd.underlying22 f0_2
  obtain rfl : u0_2 = .int .u64 a0_2 := by simpa using e0_2
  have k1 := h1
  have lt1 : ∀ x ∈ p1, x.block < W.heap.size := by obtain ⟨m, hm⟩ := k1; exact DataW.trod_lt m _ _ _ hm
  obtain ⟨u1_0, u1_1, u1_2, r1_0, r1_1, r1_2, n1, rfl, rfl, rfl, f1_0, f1_1, f1_2⟩ := Go.Joins.open_agg3 Tryd.underlying24 (by kernel_rfl) (by kernel_rfl) (hval 1 24 v1 rfl rfl) h1
  obtain ⟨a1_0, e1_0, g1_0, y1_0⟩ := DataW.trod_string Tryd.underlying9 f1_0
  obtain rfl : u1_0 = .string a1_0 := by simpa using e1_0
  obtain ⟨a1_1, e1_1, g1_1, w1_1⟩ := DataW.trod_int Tryd.underlying22 f1_1
  obtain rfl : u1_1 = .int .u64 a1_1 := by simpa using e1_1
  obtain ⟨a1_2, e1_2, g1_2, w1_2⟩ := DataW.trod_int Tryd.underlying22 f1_2
  obtain rfl : u1_2 = .int .u64 a1_2 := by simpa using e1_2
  have k2 := h2
  have lt2 : ∀ x ∈ p2, x.block < W.heap.size := by obtain ⟨m, hm⟩ := k2; exact DataW.trod_lt m _ _ _ hm
  obtain ⟨u2_0, u2_1, u2_2, r2_0, r2_1, r2_2, n2, rfl, rfl, rfl, f2_0, f2_1, f2_2⟩ := Go.Joins.open_agg3 Tryd.underlying24 (by kernel_rfl) (by kernel_rfl) (hval 2 24 v2 rfl rfl) h2
  obtain ⟨a2_0, e2_0, g2_0, y2_0⟩ := DataW.trod_string Tryd.underlying9 f2_0
  obtain rfl : u2_0 = .string a2_0 := by simpa using e2_0
  obtain ⟨a2_1, e2_1, g2_1, w2_1⟩ := DataW.trod_int Tryd.underlying22 f2_1
  obtain rfl : u2_1 = .int .u64 a2_1 := by simpa using e2_1
  obtain ⟨a2_2, e2_2, g2_2, w2_2⟩ := DataW.trod_int Tryd.underlying22 f2_2
  obtain rfl : u2_2 = .int .u64 a2_2 := by simpa using e2_2
  clear hA0 hval0 hsz0 hsz
  refine (Z.RankOrder_calls a0_0 a0_1 a0_2 a1_0 a1_1 a1_2 a2_0 a2_1 a2_2 w0_1 w0_2 w1_1 w1_2 w2_1 w2_2 W).mono ?_
  rintro e W' ⟨rfl, bel⟩
  exact ⟨_, rfl, _, _, _, [], _, [], hW', trodAll_mk1 (shut_bool Tryd.underlying4 _), (trodAll_cons_mk (Below.trod laidOut (by kernel_rfl) (of_decide_eq_true (by kernel_rfl)) k0 bel lt0) (trodAll_cons_mk (Below.trod laidOut (by kernel_rfl) (of_decide_eq_true (by kernel_rfl)) k1 bel lt1) (trodAll_cons_mk (Below.trod laidOut (by kernel_rfl) (of_decide_eq_true (by kernel_rfl)) k2 bel lt2) trodAll_mk0))), rfl, bel.frame _, fun h => by cases h⟩
theorem over : Rows.rankOrderRow.holds Tryd.pinned (OpenSpec.ofChange Rows.rankOrderSpec) :=
  OpenClaim.holds_of_wide 8 Tryd.f8 rfl rfl rfl rfl rfl rfl rfl ⟨rfl, rfl, rfl, rfl, rfl⟩ rfl rfl rfl rfl rfl (by kernel_rfl) Tryd.func8 (by kernel_rfl)
    (of_decide_eq_true (by kernel_rfl)) (by unfold Func.isWrapper; first | (rw [if_pos (by decide +kernel)]; kernel_rfl) | (rw [if_neg (by decide +kernel)]; exact ⟨rfl, rfl⟩))
    (fun os started H enc _ => lifted os started H enc)
theorem proved : Rows.RankOrderSaid := over
#print axioms proved
end Go.Proofs.YtjipfimhmfhmhaaDoor.rankOrder
namespace Go.Proofs.YtjipfimhmfhmhaaDoor
/-- The row, under a short name, for the claim. -/
theorem rankOrder_row_holds : Rows.RankOrderSaid := rankOrder.proved
/-- The card: what counts. -/
theorem rankOrder_holds : Rows.RankOrderCardSaid :=
  Claim7.holds_tied_plain_at .later [] [.data, .pinned] true (true, "a836e7331f1c07586aba18c02b2344cfab06d7a90b9343d7144d6894127090d4") false rankOrder_row_holds (fun _ h => by cases h) (by kernel_rfl) (fun _ h => by cases h) rankOrder_row_tie rfl ⟨rfl, rfl⟩ (by kernel_rfl) rfl
    (fun f fn hf hfn => by
      obtain rfl : f = 8 := Option.some.inj ((show Tryd.prog.funcNamed "samphire/samphirelaw10.RankOrder" = some 8 by kernel_rfl).symm.trans hf) |>.symm
      obtain rfl : fn = Tryd.f8 := (Option.some.inj (Tryd.func8.symm.trans hfn)).symm
      exact ⟨by kernel_rfl, fun j t ht => by
        rw [Tryd.params8] at ht
        have hm : t ∈ [24, 24, 24] := by simpa using Array.mem_of_getElem? ht
        have hall : ([24, 24, 24].all fun u => !Tryd.prog.wantsStandIn u) = true := by kernel_rfl
        exact (show Tryd.prog.wantsStandIn t = false by simpa using List.all_eq_true.1 hall t hm)⟩)
    (by kernel_rfl)
#print axioms rankOrder_holds
end Go.Proofs.YtjipfimhmfhmhaaDoor
