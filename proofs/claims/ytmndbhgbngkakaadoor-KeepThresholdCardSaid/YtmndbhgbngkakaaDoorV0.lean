/- Words for walks over plain data. No condition. -/
import Derived.Test.YtmndbhgbngkakaaDoorH0
import Derived.Test.YtmndbhgbngkakaaDoorKx0
import Derived.Test.YtmndbhgbngkakaaDoorGB
namespace Go.Proofs.YtmndbhgbngkakaaDoor.Z
open Go Go.RowKit Go.Proofs.YtmndbhgbngkakaaDoor.E Go.Proofs.YtmndbhgbngkakaaDoor.G
set_option linter.all false

theorem fin_bool {q : FV → FV → Prop} {a b : Bool} (h : q (.bool a) .dead) (e : b = a) : q (.bool b) .dead := e ▸ h
theorem fin_int {q : FV → FV → Prop} {k : IntKind} {a b : Int} (h : q (.int k a) .dead) (e : b = a) : q (.int k b) .dead := e ▸ h
theorem fin_row {q : FV → FV → Prop} {s : Shp} {a b : List FV} (h : q (.row s a) .dead) (e : b = a) : q (.row s b) .dead := e ▸ h
theorem fin_new {q : FV → FV → Prop} {s : Shp} {a b : List FV} (h : q (.new s a) .dead) (e : b = a) : q (.new s b) .dead := e ▸ h
/-- A state, written out. -/
def st (l : List (Nat × FV)) (h : List (Nat × VB)) : VS := (l.foldr (fun p T => T.set p.1 p.2) .nil, h.foldr (fun p T => T.set p.1 p.2) .nil)
theorem loop_intro {A : Lz} (hA : A = std) {ty : Ty} {S : Tab} {c : Code} {s : VS} {Q : Ex → VS → Prop} (ds : List (Nat × WK)) (I : Nat → VS → Prop) (n : Nat) (h0 : narF A ds s (I n))
    (h : ∀ n s, I n s → wpF A ty S c s fun ex s' => match ex with | .norm => ∃ m, m < n ∧ narF A ds s' (I m) | e => Q e s') : A Prop (fun _ => LoopW (wpF A ty S c) Q s) := by
  subst hA
  exact .inv ⟨ds, I, ⟨n, h0⟩, h⟩
def ii (k : IntKind) (l : List Int) : List FV := l.map (FV.int k)
def toIs (l : List FV) : List Int := l.map FV.toI
@[simp] theorem toIs_len (l : List FV) : (toIs l).length = l.length := List.length_map _
@[simp] theorem ii_len (k : IntKind) (l : List Int) : (ii k l).length = l.length := List.length_map _
@[simp] theorem toIs_ii (k : IntKind) (l : List Int) : toIs (ii k l) = l := by simp [toIs, ii, Function.comp_def, FV.toI]
theorem nth_toI (l : List FV) (i : Nat) : (G.nth l i).toI = (toIs l).getD i 0 := by
  unfold G.nth toIs
  by_cases h : i < l.length
  · simp [List.getD_eq_getElem?_getD, h]
  · simp [List.getD_eq_getElem?_getD, Nat.not_lt.1 h, FV.toI]
theorem nth_rd' (l : List FV) (i : Int) : (G.nth l i.toNat).toI = YtmndbhgbngkakaaDoorW.PrintWords.rd (toIs l) i := nth_toI l i.toNat
theorem set_ii (k : IntKind) (l : List Int) (i : Nat) (x : Int) : setN (ii k l) i (.int k x) = ii k (l.set i x) := by simp [setN, ii, List.map_set]
theorem take_toIs (l : List FV) (n : Nat) : toIs (l.take n) = (toIs l).take n := by simp [toIs]
theorem i64w (x : Int) : IntKind.i64.wrap x = wrap64 x := i64_wrap x
theorem nc (n : Nat) : @NatCast.natCast Int instNatCastInt n = (n : Int) := rfl
@[simp] theorem ieq_iff (a b : Int) : (ieq a b = true) = (a = b) := by simp [ieq]
@[simp] theorem ieq_iff' (a b : Int) : (ieq a b = false) = (a ≠ b) := by simp [ieq]
@[simp] theorem ilt_iff (a b : Int) : (ilt a b = true) = (a < b) := by simp [ilt]
@[simp] theorem ilt_iff' (a b : Int) : (ilt a b = false) = ¬(a < b) := by simp [ilt]
@[simp] theorem ile_iff (a b : Int) : (ile a b = true) = (a ≤ b) := by simp [ile]
@[simp] theorem ile_iff' (a b : Int) : (ile a b = false) = ¬(a ≤ b) := by simp [ile]
theorem set_toIs (k : IntKind) (l : List FV) (i : Nat) (x : Int) : toIs (setN l i (.int k x)) = (toIs l).set i x := by simp [setN, toIs, List.map_set, FV.toI]
theorem repl_toIs (k : IntKind) (n : Nat) (x : Int) : toIs (List.replicate n (.int k x)) = List.replicate n x := by simp [toIs, FV.toI]
theorem app_toIs (a b : List FV) : toIs (a ++ b) = toIs a ++ toIs b := by simp [toIs]
theorem drop_toIs (l : List FV) (n : Nat) : toIs (l.drop n) = (toIs l).drop n := by simp [toIs]
theorem ix {i : Int} {n : Nat} (h : 0 ≤ i) (h' : i < n) : 0 ≤ i ∧ i.toNat < n := ⟨h, (Int.toNat_lt h).2 h'⟩
theorem ix' {i : Int} {n : Nat} (h : 0 ≤ i) (h' : i ≤ n) : 0 ≤ i ∧ i.toNat ≤ n := ⟨h, Int.toNat_le.2 h'⟩
/-- What is of the shape of whole numbers is they. -/
theorem has_ii {k : IntKind} {l : List FV} (h : ∀ x, x ∈ l → has (.int k) x = true) : l = ii k (toIs l) := by
  unfold ii toIs
  rw [List.map_map]
  refine (List.map_id l).symm.trans (List.map_congr_left fun x hx => ?_)
  have := h x hx
  cases x <;> simp [has, has1] at this
  subst this; rfl
theorem wf_ii {k : IntKind} {n : Nat} {l : List FV} (h : wfF (n + 1) (.row (.int k) l)) : l = ii k (toIs l) := has_ii fun x hx => (h x hx).1
theorem set_wf {k : IntKind} {l : List FV} (h : l = ii k (toIs l)) (i : Nat) (x : Int) : setN l i (.int k x) = ii k (toIs (setN l i (.int k x))) := by
  rw [set_toIs, ← set_ii, ← h]
theorem take_ii (k : IntKind) (l : List Int) (n : Nat) : (ii k l).take n = ii k (l.take n) := by simp [ii]
/-- What a function tells, from some number of rounds on. -/
def tells {β : Type} (g : Nat → Option β) (mk : β → FV) (q : FV → FV → Prop) : Prop := ∃ k r, g k = some r ∧ q (mk r) .dead
theorem p32 : (2 : Int) ^ min (Int.toNat 32) (IntKind.bits .u64) = 4294967296 := by decide
theorem p31 : (2 : Int) ^ min (Int.toNat 31) (IntKind.bits .u32) = 2147483648 := by decide
theorem mk4 {n : Int} (h : 0 ≤ n) (h' : n.toNat ≤ 70368744177664) : 0 ≤ n ∧ n ≤ n ∧ n.toNat ≤ mkRoom ∧ n.toNat * 4 ≤ mkRoom := ⟨h, Int.le_refl n, by unfold mkRoom; omega, by unfold mkRoom; omega⟩
theorem mk8 {n : Int} (h : 0 ≤ n) (h' : n.toNat ≤ 35184372088832) : 0 ≤ n ∧ n ≤ n ∧ n.toNat ≤ mkRoom ∧ n.toNat * 8 ≤ mkRoom := ⟨h, Int.le_refl n, by unfold mkRoom; omega, by unfold mkRoom; omega⟩
theorem set_ii' {k : IntKind} {l : List FV} (h : l = ii k (toIs l)) (i : Nat) (x : Int) : setN l i (.int k x) = ii k ((toIs l).set i x) := by rw [← set_toIs, ← set_wf h]
theorem fin1 {q : FV → FV → Prop} {a b c : FV} (h : q a c) (e : b = a) : q b c := e ▸ h
theorem fin2 {q : FV → FV → Prop} {a b a' b' : FV} (h : q a b) (e : a' = a) (e' : b' = b) : q a' b' := e ▸ e' ▸ h
theorem zE32 : zeroE ⟨.int .u32, 1, 4, false, [.int .u32 0], .int .u32, false⟩ = .int .u32 0 := rfl
theorem zE64 : zeroE ⟨.int .u64, 1, 8, false, [.int .u64 0], .int .u64, false⟩ = .int .u64 0 := rfl
theorem repl_ii (k : IntKind) (n : Nat) (x : Int) : List.replicate n (FV.int k x) = ii k (toIs (List.replicate n (FV.int k x))) := by simp [toIs, ii, FV.toI]
theorem nE (k : IntKind) (l : List FV) (n : Nat) (x : Int) : newElt std (.int k) l n 1 0 (.int k x) = .int k x := rfl
theorem w0 : IntKind.u64.wrap 0 = 0 := by decide
theorem ii_wf (k : IntKind) (l : List Int) : ii k l = ii k (toIs (ii k l)) := by rw [toIs_ii]
theorem p63 : (2 : Int) ^ min (Int.toNat 63) (IntKind.bits .u64) = 9223372036854775808 := by decide
theorem w6432 (x : Int) : IntKind.u64.wrap (x % 4294967296) = x % 4294967296 := by
  have h : IntKind.u64.wrap (x % 4294967296) = (x % 4294967296) % 18446744073709551616 := by simp [IntKind.wrap, IntKind.bits, IntKind.signed]
  rw [h]; omega
theorem ap4 {n : Nat} (h : n < 35184372088832) : (n + 1) * 4 ≤ maxRoom ∧ n + 1 ≤ maxRoom := ⟨by unfold maxRoom; omega, by unfold maxRoom; omega⟩
theorem ap8 {n : Nat} (h : n < 17592186044416) : (n + 1) * 8 ≤ maxRoom ∧ n + 1 ≤ maxRoom := ⟨by unfold maxRoom; omega, by unfold maxRoom; omega⟩
theorem tos1 (k : IntKind) (x : Int) : toIs [FV.int k x] = [x] := rfl
theorem app_ii' {k : IntKind} {l : List FV} (h : l = ii k (toIs l)) (x : Int) : l ++ [.int k x] = ii k (toIs l ++ [x]) := by
  conv => lhs; rw [h]
  simp [ii]
theorem app_wf {k : IntKind} {l : List FV} (h : l = ii k (toIs l)) (x : Int) : l ++ [.int k x] = ii k (toIs (l ++ [.int k x])) := by rw [app_toIs, tos1]; exact app_ii' h x
theorem tos0 : toIs [] = [] := rfl
theorem p1 : (2 : Int) ^ min (Int.toNat 1) (IntKind.bits .u32) = 2 := by decide
theorem take_wf {k : IntKind} {l : List FV} (h : l = ii k (toIs l)) (n : Nat) : (l.drop 0).take n = ii k (toIs ((l.drop 0).take n)) := by
  rw [List.drop_zero, take_toIs, ← take_ii, ← h]
def wd0 := And.intro @List.length_replicate.{0} <| And.intro @Int.zero_tmod <| And.intro @toIs_ii <| And.intro @ii_len <| And.intro @Int.zero_tdiv <| And.intro @w0 <| And.intro @nE <| And.intro @zE32 <| And.intro @zE64 <| And.intro @nth_rd' <| True.intro
def wd1 := And.intro @i64w <| And.intro @u32_wrap <| And.intro @p32 <| And.intro @p31 <| And.intro @p63 <| And.intro @w6432 <| And.intro @toIs_len <| And.intro @set_toIs <| And.intro @repl_toIs <| And.intro @app_toIs <| True.intro
def wd2 := And.intro @tos1 <| And.intro @tos0 <| And.intro @p1 <| And.intro @take_toIs <| And.intro @drop_toIs <| And.intro @ieq_iff <| And.intro @ieq_iff' <| And.intro @ilt_iff <| And.intro @ilt_iff' <| And.intro @ile_iff <| True.intro
def wd3 := And.intro @ile_iff' <| And.intro @gt_iff_lt.{0} <| And.intro @ge_iff_le.{0} <| And.intro @Bool.not_eq_true' <| And.intro @Bool.not_eq_false' <| And.intro @List.drop_zero.{0} <| And.intro @Nat.sub_zero <| True.intro
end Go.Proofs.YtmndbhgbngkakaaDoor.Z
