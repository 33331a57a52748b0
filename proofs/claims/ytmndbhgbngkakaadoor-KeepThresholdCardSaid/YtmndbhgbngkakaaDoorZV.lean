/- This seat's functions that stand for what they yield. No condition. -/
import Derived.Test.YtmndbhgbngkakaaDoorV0
import Derived.Test.YtmndbhgbngkakaaDoorZ2
import Derived.Test.YtmndbhgbngkakaaDoorGB
import Derived.Test.YtmndbhgbngkakaaDoorI9
namespace Go.Proofs.YtmndbhgbngkakaaDoor.Z
open Go Go.RowKit Go.Proofs.YtmndbhgbngkakaaDoor.E Go.Proofs.YtmndbhgbngkakaaDoor.G Go.Proofs.YtmndbhgbngkakaaDoor.K
set_option linter.all false

set_option maxRecDepth 100000
set_option maxHeartbeats 4000000
def dLen : List Value → Option Value
  | [.int .u32 a] => if 0 ≤ a ∧ a ≤ 4294967295 then some (.int .i64 (Lib.bitLen a.toNat)) else none
  | _ => none
theorem ok_len32 : IntrOk Tryd.prog 92 (flatI dLen) := by
  refine flatC_ok fun args v h w => ?_
  unfold dLen at h
  split at h
  · rename_i a
    split at h
    · rename_i ha
      cases h
      refine (Any.bits_Len32 Tryd.lays128 a w ha.1 ha.2).mono fun e w' => ?_
      rintro ⟨rfl, rfl⟩
      exact ⟨rfl, Below.refl _ _⟩
    · cases h
  · cases h
def room (b : Nat) (l : List FV) : Prop := l.length * b ≤ maxRoom ∧ l.length ≤ maxRoom
/-- slices.Clone of something. -/
theorem clone_nat0 : SpecOk (B.env L2) 72 ⟨false, fun A xs q => match xs with | [.row s l] => Shp.eqb s (.int .u32) = true ∧ l ≠ [] ∧ room 4 l ∧ q (.new (.int .u32) l) .dead | _ => False⟩ := by
  refine spec_goL (.nil _) rfl rfl Tryd.func72 rfl false [true] _ ?_
  intro A hA args q h
  split at h
  · obtain ⟨hs, hl, hp, hq⟩ := h
    have hs := Shp.eqb_eq _ _ hs
    subst hs
    refine ⟨Nat.le_of_ble_eq_true rfl, ?_⟩
    cbv
    subst hA
    exact ⟨hl, by simpa [std, room] using hp, by simpa [packF, std] using hq⟩
  · exact h.elim
def itemSh : Shp := .agg [.str, .int .u64, .int .u64]
theorem clone_item0 : SpecOk (B.env L2) 31 ⟨false, fun A xs q => match xs with | [.row s l] => Shp.eqb s itemSh = true ∧ l ≠ [] ∧ room 32 l ∧ q (.new itemSh l) .dead | _ => False⟩ := by
  refine spec_goL (.nil _) rfl rfl Tryd.func31 rfl false [true] _ ?_
  intro A hA args q h
  split at h
  · obtain ⟨hs, hl, hp, hq⟩ := h
    have hs := Shp.eqb_eq _ _ hs
    subst hs
    refine ⟨Nat.le_of_ble_eq_true rfl, ?_⟩
    cbv
    subst hA
    exact ⟨hl, by simpa [std, room] using hp, by simpa [packF, std, itemSh] using hq⟩
  · exact h.elim
theorem nil_eval {f : FuncId} (h : ∀ c, (evCall (B.env L2) 5 f #[.slice none 0 c] M0).map (·.1) = some (.slice none 0 0)) : ∀ c, ∃ n H1, evCall (B.env L2) n f #[.slice none 0 c] M0 = some (.slice none 0 0, H1) := fun c => by
  obtain ⟨H, hH⟩ := map_ev (h c)
  exact ⟨5, H, hH⟩
theorem zo_eval {f : FuncId} {r : Nat} (h : (evCall (B.env L2) 5 f #[.slice (some ⟨0, 0, none⟩) 0 ZO] M0).map (·.1) = some (.slice (some ⟨r, 0, none⟩) 0 0)) : ∃ n H1 r, evCall (B.env L2) n f #[.slice (some ⟨0, 0, none⟩) 0 ZO] M0 = some (.slice (some ⟨r, 0, none⟩) 0 0, H1) := by
  obtain ⟨H, hH⟩ := map_ev h
  exact ⟨5, H, r, hH⟩
theorem ok_clone_nat : IntrOk Tryd.prog 72 (cloneI (B.env L2) 72) :=
  cloneI_ok B_ok L2_ok (nil_eval fun c => by kernel_rfl) (zo_eval (r := 0) (by kernel_rfl))
theorem ok_clone_item : IntrOk Tryd.prog 31 (cloneI (B.env L2) 31) :=
  cloneI_ok B_ok L2_ok (nil_eval fun c => by kernel_rfl) (zo_eval (r := 0) (by kernel_rfl))
noncomputable def LVa : List (FuncId × Intr) := (47, I.insI) :: (45, I.delI) :: (72, cloneI (B.env L2) 72) :: (31, cloneI (B.env L2) 31) :: (92, flatI dLen) :: L2
theorem LVa_ok : AllOk B.P LVa := .cons I.insI_ok <| .cons I.delI_ok <| .cons ok_clone_nat <| .cons ok_clone_item <| .cons ok_len32 <| L2_ok
noncomputable def LVb : List (FuncId × Intr) := (47, I.insI) :: (45, I.delI) :: []
theorem LVb_ok : AllOk B.P LVb := .cons I.insI_ok <| .cons I.delI_ok <| .nil _
theorem ok_awake13 : IntrOk Tryd.prog 9 (flatI dTrue) := by
  refine flatI_ok B_ok LVb_ok fun args v h => ?_
  unfold dTrue at h
  split at h
  · cases h
    have h : (evCall (B.env LVb) 1000 9 #[] M0).map (·.1) = some (.bool true) := by kernel_rfl
    obtain ⟨H, hH⟩ := map_ev h
    exact ⟨1000, H, hH⟩
  · cases h
noncomputable def LV : List (FuncId × Intr) := (9, flatI dTrue) :: LVa
theorem LV_ok : AllOk B.P LV := .cons ok_awake13 <| LVa_ok
noncomputable abbrev EV : Env := B.env LV
theorem clone_nat_ok : SpecOk EV 72 ⟨false, cloneRun (.int .u32) (room 4)⟩ := clone_spec rfl ⟨_, Tryd.func72, rfl⟩ clone_nat0
theorem clone_item_ok : SpecOk EV 31 ⟨false, cloneRun itemSh (room 32)⟩ := clone_spec rfl ⟨_, Tryd.func31, rfl⟩ clone_item0
theorem ins_item_ok : SpecOk EV 47 ⟨true, I.insRun⟩ := I.ins_spec rfl ⟨_, Tryd.func47, rfl⟩
theorem del_item_ok : SpecOk EV 45 ⟨true, I.delRun⟩ := I.del_spec rfl ⟨_, Tryd.func45, rfl⟩
def lenRun (A : Lz) (args : List FV) (q : FV → FV → Prop) : Prop :=
  match args with
  | [.int .u32 a] => ∃ r, bits_Len32.f a = some r ∧ q (.int .i64 r) .dead
  | _ => False
theorem len_ok : SpecOk EV 92 ⟨false, lenRun⟩ := by
  refine .less (flat_spec (B := B) (L := LV) (dom := dLen) rfl ⟨_, Tryd.func92, rfl⟩) fun xs q _ h => ?_
  unfold lenRun at h
  split at h
  · obtain ⟨r, hr, h⟩ := h
    unfold bits_Len32.f at hr
    split at hr
    · rename_i ha
      cases hr
      exact ⟨rfl, _, if_pos ha, rfl, h⟩
    · cases hr
  · exact h.elim
theorem spec_go {S : Tab} (hS : TabOk EV S) {f : FuncId} {fn : Func} {c : Code} (hi : lookI LV f = none) (hb : EV.bad f = false) (hf : Tryd.prog.funcs[f]? = some fn) (hc : fn.body = some c) (own : Bool) (nws : List Bool) (run : Lz → List FV → (FV → FV → Prop) → Prop)
    (h : ∀ A : Lz, A = std → ∀ args q, run std args q → args.length ≤ fn.ntmps ∧ wpF A (tyOf c fn.results.toList) S c (startF own args) fun ex s => match ex with | .exit _ => False | _ => retF A (tyOf c fn.results.toList) own nws fn.results.toList s q) : SpecOk EV f ⟨own, run⟩ :=
  spec_goL hS hi hb hf hc own nws run h
end Go.Proofs.YtmndbhgbngkakaaDoor.Z
