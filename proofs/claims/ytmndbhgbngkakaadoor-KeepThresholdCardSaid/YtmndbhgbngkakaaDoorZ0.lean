/- This seat's program, as the evaluator takes it. No condition. -/
import Derived.Test.YtmndbhgbngkakaaDoorEB
import Derived.Test.YtmndbhgbngkakaaDoorProg
namespace Go.Proofs.YtmndbhgbngkakaaDoor.Z
open Go Go.RowKit Go.Proofs.YtmndbhgbngkakaaDoor.E
set_option linter.all false

def cmpX (args : Array Value) : Option Value :=
  match args.toList with
  | [.string a, .string b] => some (goInt (Extern.BytealgCompare.cmp a b))
  | _ => none
def X (f : FuncId) : Option (Array Value → Option Value) := if f = 67 then some cmpX else none
noncomputable def B : Base := { P := Tryd.prog, X := X, bad := fun f => Nat.beq f 90 || Nat.beq f 120 }
@[simp] theorem env_P (L : List (FuncId × Intr)) : (B.env L).P = Tryd.prog := rfl
@[simp] theorem env_I (L : List (FuncId × Intr)) (f : FuncId) : (B.env L).I f = lookI L f := rfl
@[simp] theorem env_X (L : List (FuncId × Intr)) : (B.env L).X = X := rfl
@[simp] theorem env_bad (L : List (FuncId × Intr)) (f : FuncId) : (B.env L).bad f = (Nat.beq f 90 || Nat.beq f 120) := rfl
theorem B_ok : B.Ok := by
  refine ⟨fun f g args v hg hv hf w => ?_, by kernel_rfl, by kernel_rfl⟩
  have hg : X f = some g := hg
  unfold X at hg
  split at hg
  · rename_i e
    subst e
    cases hg
    unfold cmpX at hv
    split at hv
    · rename_i a b hl
      cases hv
      obtain rfl : args = #[.string a, .string b] := Array.ext' (by simpa using hl)
      have h1 : Extern.findNext Tryd.f67 = none := by kernel_rfl
      have h2 : Extern.find Tryd.f67 = some Extern.BytealgCompare.compare := by kernel_rfl
      have h3 : (Tryd.f67.name == "runtime.NumGoroutine") = false := by kernel_rfl
      have h4 : Tryd.f67.body.isNone = true := by kernel_rfl
      have h5 : Tryd.prog.funcs[(67 : Nat)]? = some Tryd.f67 := Tryd.func67
      refine ⟨?_, rfl⟩
      simp only [callFunc, B, Sem.run_bind, run_program, Result.andThen_ok, h5, h3, Bool.false_eq_true, if_false, h4, if_true, run_mark, h1, h2]
      have hc : Extern.BytealgCompare.compare #[.string a, .string b] = pure (goInt (Extern.BytealgCompare.cmp a b)) := rfl
      rw [hc]
      rfl
    · cases hv
  · cases hg
@[simp] theorem tzr2 : tzero Tryd.prog 2 = some (.int .i64 0) := by kernel_rfl
@[simp] theorem tzr3 : tzero Tryd.prog 3 = some (.int .i64 0) := by kernel_rfl
@[simp] theorem tzr4 : tzero Tryd.prog 4 = some (.bool false) := by kernel_rfl
@[simp] theorem tzr5 : tzero Tryd.prog 5 = some (.int .u8 0) := by kernel_rfl
@[simp] theorem tzr6 : tzero Tryd.prog 6 = some (.int .u8 0) := by kernel_rfl
@[simp] theorem tzr7 : tzero Tryd.prog 7 = some (.agg #[.int .i64 0, .int .i64 0, .bool false, .int .u8 0]) := by kernel_rfl
@[simp] theorem tzr8 : tzero Tryd.prog 8 = some (.agg #[.int .i64 0, .int .i64 0, .bool false, .int .u8 0]) := by kernel_rfl
@[simp] theorem tzr9 : tzero Tryd.prog 9 = some (.string ByteArray.empty) := by kernel_rfl
@[simp] theorem tzr10 : tzero Tryd.prog 10 = some (.string ByteArray.empty) := by kernel_rfl
@[simp] theorem tzr11 : tzero Tryd.prog 11 = some (.string ByteArray.empty) := by kernel_rfl
@[simp] theorem tzr12 : tzero Tryd.prog 12 = some (.int .u64 0) := by kernel_rfl
@[simp] theorem tzr13 : tzero Tryd.prog 13 = some (.agg #[.string ByteArray.empty, .int .u64 0]) := by kernel_rfl
@[simp] theorem tzr14 : tzero Tryd.prog 14 = some (.agg #[.string ByteArray.empty, .int .u64 0]) := by kernel_rfl
@[simp] theorem tzr15 : tzero Tryd.prog 15 = some (.pointer none) := by kernel_rfl
@[simp] theorem tzr16 : tzero Tryd.prog 16 = some (.pointer none) := by kernel_rfl
@[simp] theorem tzr17 : tzero Tryd.prog 17 = some (.pointer none) := by kernel_rfl
@[simp] theorem tzr18 : tzero Tryd.prog 18 = some (.agg #[.pointer none]) := by kernel_rfl
@[simp] theorem tzr19 : tzero Tryd.prog 19 = some (.agg #[.pointer none]) := by kernel_rfl
@[simp] theorem tzr21 : tzero Tryd.prog 21 = some (.int .i32 0) := by kernel_rfl
@[simp] theorem tzr22 : tzero Tryd.prog 22 = some (.slice none 0 0) := by kernel_rfl
@[simp] theorem tzr25 : tzero Tryd.prog 25 = some (.int .i64 0) := by kernel_rfl
@[simp] theorem tzr28 : tzero Tryd.prog 28 = some (.int .u64 0) := by kernel_rfl
@[simp] theorem tzr29 : tzero Tryd.prog 29 = some (.agg #[.string ByteArray.empty, .int .u64 0, .int .u64 0]) := by kernel_rfl
@[simp] theorem tzr30 : tzero Tryd.prog 30 = some (.agg #[.string ByteArray.empty, .int .u64 0, .int .u64 0]) := by kernel_rfl
@[simp] theorem tzr42 : tzero Tryd.prog 42 = some (.slice none 0 0) := by kernel_rfl
@[simp] theorem tzr43 : tzero Tryd.prog 43 = some (.slice none 0 0) := by kernel_rfl
@[simp] theorem tzr44 : tzero Tryd.prog 44 = some (.agg #[.slice none 0 0, .slice none 0 0]) := by kernel_rfl
@[simp] theorem tzr45 : tzero Tryd.prog 45 = some (.agg #[.slice none 0 0, .slice none 0 0]) := by kernel_rfl
@[simp] theorem tzr57 : tzero Tryd.prog 57 = some (.map none) := by kernel_rfl
@[simp] theorem tzr61 : tzero Tryd.prog 61 = some (.agg #[.int .u64 0, .int .u64 0]) := by kernel_rfl
@[simp] theorem tzr62 : tzero Tryd.prog 62 = some (.agg #[.int .u64 0, .int .u64 0]) := by kernel_rfl
@[simp] theorem tzr78 : tzero Tryd.prog 78 = some (.slice none 0 0) := by kernel_rfl
@[simp] theorem tzr85 : tzero Tryd.prog 85 = some (.int .u32 0) := by kernel_rfl
@[simp] theorem tzr86 : tzero Tryd.prog 86 = some (.int .u64 0) := by kernel_rfl
@[simp] theorem tzr95 : tzero Tryd.prog 95 = some (.agg #[.int .u64 0, .int .u64 0, .int .u64 0, .int .u64 0, .int .u64 0, .int .u64 0, .int .u64 0, .int .u64 0]) := by kernel_rfl
@[simp] theorem tzr105 : tzero Tryd.prog 105 = some (.agg #[.int .u8 0, .int .u8 0, .int .u8 0, .int .u8 0, .int .u8 0, .int .u8 0, .int .u8 0, .int .u8 0, .int .u8 0]) := by kernel_rfl
@[simp] theorem tzr106 : tzero Tryd.prog 106 = some (.slice none 0 0) := by kernel_rfl
@[simp] theorem tzr113 : tzero Tryd.prog 113 = some (.pointer none) := by kernel_rfl
@[simp] theorem tzr114 : tzero Tryd.prog 114 = some (.agg #[.int .u64 0, .int .u64 0, .int .u64 0, .int .u64 0, .int .u64 0, .int .u64 0, .int .u64 0, .int .u64 0, .int .u64 0, .int .u64 0, .int .u64 0, .int .u64 0, .int .u64 0, .int .u64 0, .int .u64 0, .int .u64 0]) := by kernel_rfl
@[simp] theorem tzr129 : tzero Tryd.prog 129 = some (.agg #[.int .u8 0, .int .u8 0]) := by kernel_rfl
@[simp] theorem tzr130 : tzero Tryd.prog 130 = some (.agg #[.int .u8 0, .int .u8 0]) := by kernel_rfl
@[simp] theorem tzr136 : tzero Tryd.prog 136 = some (.agg #[.pointer none, .pointer none, .pointer none, .string ByteArray.empty]) := by kernel_rfl
@[simp] theorem tzr137 : tzero Tryd.prog 137 = some (.agg #[.pointer none, .pointer none, .pointer none, .string ByteArray.empty]) := by kernel_rfl
@[simp] theorem tzr138 : tzero Tryd.prog 138 = some (.agg #[]) := by kernel_rfl
@[simp] theorem tzr139 : tzero Tryd.prog 139 = some (.agg #[]) := by kernel_rfl
@[simp] theorem tzr140 : tzero Tryd.prog 140 = some (.agg #[]) := by kernel_rfl
@[simp] theorem tzr142 : tzero Tryd.prog 142 = some (.int .u8 0) := by kernel_rfl
@[simp] theorem tzr143 : tzero Tryd.prog 143 = some (.int .u8 0) := by kernel_rfl
@[simp] theorem tzr145 : tzero Tryd.prog 145 = some (.pointer none) := by kernel_rfl
@[simp] theorem tzr146 : tzero Tryd.prog 146 = some (.int .i32 0) := by kernel_rfl
@[simp] theorem tzr147 : tzero Tryd.prog 147 = some (.int .i32 0) := by kernel_rfl
@[simp] theorem tzr148 : tzero Tryd.prog 148 = some (.agg #[.int .u64 0, .int .u64 0, .int .u32 0, .int .u8 0, .int .u8 0, .int .u8 0, .int .u8 0, .nilFunc, .pointer none, .int .i32 0, .int .i32 0]) := by kernel_rfl
@[simp] theorem tzr149 : tzero Tryd.prog 149 = some (.agg #[.int .u64 0, .int .u64 0, .int .u32 0, .int .u8 0, .int .u8 0, .int .u8 0, .int .u8 0, .nilFunc, .pointer none, .int .i32 0, .int .i32 0]) := by kernel_rfl
@[simp] theorem tzr150 : tzero Tryd.prog 150 = some (.pointer none) := by kernel_rfl
@[simp] theorem tsz2 : tsz Tryd.prog 2 = some 1 := by kernel_rfl
@[simp] theorem tby2 : tbytes Tryd.prog 2 = some 8 := by kernel_rfl
@[simp] theorem tsz3 : tsz Tryd.prog 3 = some 1 := by kernel_rfl
@[simp] theorem tby3 : tbytes Tryd.prog 3 = some 8 := by kernel_rfl
@[simp] theorem tsz4 : tsz Tryd.prog 4 = some 1 := by kernel_rfl
@[simp] theorem tby4 : tbytes Tryd.prog 4 = some 1 := by kernel_rfl
@[simp] theorem tsz5 : tsz Tryd.prog 5 = some 1 := by kernel_rfl
@[simp] theorem tby5 : tbytes Tryd.prog 5 = some 1 := by kernel_rfl
@[simp] theorem tsz6 : tsz Tryd.prog 6 = some 1 := by kernel_rfl
@[simp] theorem tby6 : tbytes Tryd.prog 6 = some 1 := by kernel_rfl
@[simp] theorem tsz7 : tsz Tryd.prog 7 = some 4 := by kernel_rfl
@[simp] theorem tby7 : tbytes Tryd.prog 7 = some 24 := by kernel_rfl
@[simp] theorem tsz8 : tsz Tryd.prog 8 = some 4 := by kernel_rfl
@[simp] theorem tby8 : tbytes Tryd.prog 8 = some 24 := by kernel_rfl
@[simp] theorem tsz9 : tsz Tryd.prog 9 = some 1 := by kernel_rfl
@[simp] theorem tby9 : tbytes Tryd.prog 9 = some 16 := by kernel_rfl
@[simp] theorem tsz10 : tsz Tryd.prog 10 = some 1 := by kernel_rfl
@[simp] theorem tby10 : tbytes Tryd.prog 10 = some 16 := by kernel_rfl
@[simp] theorem tsz11 : tsz Tryd.prog 11 = some 1 := by kernel_rfl
@[simp] theorem tby11 : tbytes Tryd.prog 11 = some 16 := by kernel_rfl
@[simp] theorem tsz12 : tsz Tryd.prog 12 = some 1 := by kernel_rfl
@[simp] theorem tby12 : tbytes Tryd.prog 12 = some 8 := by kernel_rfl
@[simp] theorem tsz13 : tsz Tryd.prog 13 = some 2 := by kernel_rfl
@[simp] theorem tby13 : tbytes Tryd.prog 13 = some 24 := by kernel_rfl
@[simp] theorem tsz14 : tsz Tryd.prog 14 = some 2 := by kernel_rfl
@[simp] theorem tby14 : tbytes Tryd.prog 14 = some 24 := by kernel_rfl
@[simp] theorem tsz15 : tsz Tryd.prog 15 = some 1 := by kernel_rfl
@[simp] theorem tby15 : tbytes Tryd.prog 15 = some 8 := by kernel_rfl
@[simp] theorem tsz16 : tsz Tryd.prog 16 = some 1 := by kernel_rfl
@[simp] theorem tby16 : tbytes Tryd.prog 16 = some 8 := by kernel_rfl
@[simp] theorem tsz17 : tsz Tryd.prog 17 = some 1 := by kernel_rfl
@[simp] theorem tby17 : tbytes Tryd.prog 17 = some 8 := by kernel_rfl
@[simp] theorem tsz18 : tsz Tryd.prog 18 = some 1 := by kernel_rfl
@[simp] theorem tby18 : tbytes Tryd.prog 18 = some 8 := by kernel_rfl
@[simp] theorem tsz19 : tsz Tryd.prog 19 = some 1 := by kernel_rfl
@[simp] theorem tby19 : tbytes Tryd.prog 19 = some 8 := by kernel_rfl
@[simp] theorem tsz21 : tsz Tryd.prog 21 = some 1 := by kernel_rfl
@[simp] theorem tby21 : tbytes Tryd.prog 21 = some 4 := by kernel_rfl
@[simp] theorem tsz22 : tsz Tryd.prog 22 = some 1 := by kernel_rfl
@[simp] theorem tby22 : tbytes Tryd.prog 22 = some 24 := by kernel_rfl
@[simp] theorem tsz25 : tsz Tryd.prog 25 = some 1 := by kernel_rfl
@[simp] theorem tby25 : tbytes Tryd.prog 25 = some 8 := by kernel_rfl
@[simp] theorem tsz28 : tsz Tryd.prog 28 = some 1 := by kernel_rfl
@[simp] theorem tby28 : tbytes Tryd.prog 28 = some 8 := by kernel_rfl
@[simp] theorem tsz29 : tsz Tryd.prog 29 = some 3 := by kernel_rfl
@[simp] theorem tby29 : tbytes Tryd.prog 29 = some 32 := by kernel_rfl
@[simp] theorem tsz30 : tsz Tryd.prog 30 = some 3 := by kernel_rfl
@[simp] theorem tby30 : tbytes Tryd.prog 30 = some 32 := by kernel_rfl
@[simp] theorem tsz42 : tsz Tryd.prog 42 = some 1 := by kernel_rfl
@[simp] theorem tby42 : tbytes Tryd.prog 42 = some 24 := by kernel_rfl
@[simp] theorem tsz43 : tsz Tryd.prog 43 = some 1 := by kernel_rfl
@[simp] theorem tby43 : tbytes Tryd.prog 43 = some 24 := by kernel_rfl
@[simp] theorem tsz44 : tsz Tryd.prog 44 = some 2 := by kernel_rfl
@[simp] theorem tby44 : tbytes Tryd.prog 44 = some 48 := by kernel_rfl
@[simp] theorem tsz45 : tsz Tryd.prog 45 = some 2 := by kernel_rfl
@[simp] theorem tby45 : tbytes Tryd.prog 45 = some 48 := by kernel_rfl
@[simp] theorem tsz57 : tsz Tryd.prog 57 = some 1 := by kernel_rfl
@[simp] theorem tby57 : tbytes Tryd.prog 57 = some 8 := by kernel_rfl
@[simp] theorem tsz61 : tsz Tryd.prog 61 = some 2 := by kernel_rfl
@[simp] theorem tby61 : tbytes Tryd.prog 61 = some 16 := by kernel_rfl
@[simp] theorem tsz62 : tsz Tryd.prog 62 = some 2 := by kernel_rfl
@[simp] theorem tby62 : tbytes Tryd.prog 62 = some 16 := by kernel_rfl
@[simp] theorem tsz78 : tsz Tryd.prog 78 = some 1 := by kernel_rfl
@[simp] theorem tby78 : tbytes Tryd.prog 78 = some 24 := by kernel_rfl
@[simp] theorem tsz85 : tsz Tryd.prog 85 = some 1 := by kernel_rfl
@[simp] theorem tby85 : tbytes Tryd.prog 85 = some 4 := by kernel_rfl
@[simp] theorem tsz86 : tsz Tryd.prog 86 = some 1 := by kernel_rfl
@[simp] theorem tby86 : tbytes Tryd.prog 86 = some 8 := by kernel_rfl
@[simp] theorem tsz95 : tsz Tryd.prog 95 = some 8 := by kernel_rfl
@[simp] theorem tby95 : tbytes Tryd.prog 95 = some 64 := by kernel_rfl
@[simp] theorem tsz105 : tsz Tryd.prog 105 = some 9 := by kernel_rfl
@[simp] theorem tby105 : tbytes Tryd.prog 105 = some 9 := by kernel_rfl
@[simp] theorem tsz106 : tsz Tryd.prog 106 = some 1 := by kernel_rfl
@[simp] theorem tby106 : tbytes Tryd.prog 106 = some 24 := by kernel_rfl
@[simp] theorem tsz108 : tsz Tryd.prog 108 = some 256 := by kernel_rfl
@[simp] theorem tsz109 : tsz Tryd.prog 109 = some 256 := by kernel_rfl
@[simp] theorem tsz113 : tsz Tryd.prog 113 = some 1 := by kernel_rfl
@[simp] theorem tby113 : tbytes Tryd.prog 113 = some 8 := by kernel_rfl
@[simp] theorem tsz114 : tsz Tryd.prog 114 = some 16 := by kernel_rfl
@[simp] theorem tby114 : tbytes Tryd.prog 114 = some 128 := by kernel_rfl
@[simp] theorem tsz128 : tsz Tryd.prog 128 = some 256 := by kernel_rfl
@[simp] theorem tsz129 : tsz Tryd.prog 129 = some 2 := by kernel_rfl
@[simp] theorem tby129 : tbytes Tryd.prog 129 = some 2 := by kernel_rfl
@[simp] theorem tsz130 : tsz Tryd.prog 130 = some 2 := by kernel_rfl
@[simp] theorem tby130 : tbytes Tryd.prog 130 = some 2 := by kernel_rfl
@[simp] theorem tsz131 : tsz Tryd.prog 131 = some 32 := by kernel_rfl
@[simp] theorem tsz136 : tsz Tryd.prog 136 = some 4 := by kernel_rfl
@[simp] theorem tby136 : tbytes Tryd.prog 136 = some 40 := by kernel_rfl
@[simp] theorem tsz137 : tsz Tryd.prog 137 = some 4 := by kernel_rfl
@[simp] theorem tby137 : tbytes Tryd.prog 137 = some 40 := by kernel_rfl
@[simp] theorem tsz138 : tsz Tryd.prog 138 = some 0 := by kernel_rfl
@[simp] theorem tby138 : tbytes Tryd.prog 138 = some 0 := by kernel_rfl
@[simp] theorem tsz139 : tsz Tryd.prog 139 = some 0 := by kernel_rfl
@[simp] theorem tby139 : tbytes Tryd.prog 139 = some 0 := by kernel_rfl
@[simp] theorem tsz140 : tsz Tryd.prog 140 = some 0 := by kernel_rfl
@[simp] theorem tby140 : tbytes Tryd.prog 140 = some 0 := by kernel_rfl
@[simp] theorem tsz142 : tsz Tryd.prog 142 = some 1 := by kernel_rfl
@[simp] theorem tby142 : tbytes Tryd.prog 142 = some 1 := by kernel_rfl
@[simp] theorem tsz143 : tsz Tryd.prog 143 = some 1 := by kernel_rfl
@[simp] theorem tby143 : tbytes Tryd.prog 143 = some 1 := by kernel_rfl
@[simp] theorem tsz145 : tsz Tryd.prog 145 = some 1 := by kernel_rfl
@[simp] theorem tby145 : tbytes Tryd.prog 145 = some 8 := by kernel_rfl
@[simp] theorem tsz146 : tsz Tryd.prog 146 = some 1 := by kernel_rfl
@[simp] theorem tby146 : tbytes Tryd.prog 146 = some 4 := by kernel_rfl
@[simp] theorem tsz147 : tsz Tryd.prog 147 = some 1 := by kernel_rfl
@[simp] theorem tby147 : tbytes Tryd.prog 147 = some 4 := by kernel_rfl
@[simp] theorem tsz148 : tsz Tryd.prog 148 = some 11 := by kernel_rfl
@[simp] theorem tby148 : tbytes Tryd.prog 148 = some 48 := by kernel_rfl
@[simp] theorem tsz149 : tsz Tryd.prog 149 = some 11 := by kernel_rfl
@[simp] theorem tby149 : tbytes Tryd.prog 149 = some 48 := by kernel_rfl
@[simp] theorem tsz150 : tsz Tryd.prog 150 = some 1 := by kernel_rfl
@[simp] theorem tby150 : tbytes Tryd.prog 150 = some 8 := by kernel_rfl
@[simp] theorem fu0 : Tryd.prog.funcs[(0 : Nat)]? = some Tryd.f0 := Tryd.func0
@[simp] theorem bo0 : Tryd.f0.body.isSome = false := by kernel_rfl
@[simp] theorem fu1 : Tryd.prog.funcs[(1 : Nat)]? = some Tryd.f1 := Tryd.func1
@[simp] theorem bo1 : Tryd.f1.body.isSome = false := by kernel_rfl
@[simp] theorem fu2 : Tryd.prog.funcs[(2 : Nat)]? = some Tryd.f2 := Tryd.func2
@[simp] theorem bo2 : Tryd.f2.body.isSome = true := by kernel_rfl
@[simp] theorem fu3 : Tryd.prog.funcs[(3 : Nat)]? = some Tryd.f3 := Tryd.func3
@[simp] theorem bo3 : Tryd.f3.body.isSome = true := by kernel_rfl
@[simp] theorem fu4 : Tryd.prog.funcs[(4 : Nat)]? = some Tryd.f4 := Tryd.func4
@[simp] theorem bo4 : Tryd.f4.body.isSome = true := by kernel_rfl
@[simp] theorem fu5 : Tryd.prog.funcs[(5 : Nat)]? = some Tryd.f5 := Tryd.func5
@[simp] theorem bo5 : Tryd.f5.body.isSome = true := by kernel_rfl
@[simp] theorem fu6 : Tryd.prog.funcs[(6 : Nat)]? = some Tryd.f6 := Tryd.func6
@[simp] theorem bo6 : Tryd.f6.body.isSome = true := by kernel_rfl
@[simp] theorem fu7 : Tryd.prog.funcs[(7 : Nat)]? = some Tryd.f7 := Tryd.func7
@[simp] theorem bo7 : Tryd.f7.body.isSome = true := by kernel_rfl
@[simp] theorem fu8 : Tryd.prog.funcs[(8 : Nat)]? = some Tryd.f8 := Tryd.func8
@[simp] theorem bo8 : Tryd.f8.body.isSome = true := by kernel_rfl
@[simp] theorem fu9 : Tryd.prog.funcs[(9 : Nat)]? = some Tryd.f9 := Tryd.func9
@[simp] theorem bo9 : Tryd.f9.body.isSome = true := by kernel_rfl
@[simp] theorem fu10 : Tryd.prog.funcs[(10 : Nat)]? = some Tryd.f10 := Tryd.func10
@[simp] theorem bo10 : Tryd.f10.body.isSome = true := by kernel_rfl
@[simp] theorem fu11 : Tryd.prog.funcs[(11 : Nat)]? = some Tryd.f11 := Tryd.func11
@[simp] theorem bo11 : Tryd.f11.body.isSome = true := by kernel_rfl
@[simp] theorem fu12 : Tryd.prog.funcs[(12 : Nat)]? = some Tryd.f12 := Tryd.func12
@[simp] theorem bo12 : Tryd.f12.body.isSome = true := by kernel_rfl
@[simp] theorem fu13 : Tryd.prog.funcs[(13 : Nat)]? = some Tryd.f13 := Tryd.func13
@[simp] theorem bo13 : Tryd.f13.body.isSome = true := by kernel_rfl
@[simp] theorem fu14 : Tryd.prog.funcs[(14 : Nat)]? = some Tryd.f14 := Tryd.func14
@[simp] theorem bo14 : Tryd.f14.body.isSome = true := by kernel_rfl
@[simp] theorem fu15 : Tryd.prog.funcs[(15 : Nat)]? = some Tryd.f15 := Tryd.func15
@[simp] theorem bo15 : Tryd.f15.body.isSome = true := by kernel_rfl
@[simp] theorem fu16 : Tryd.prog.funcs[(16 : Nat)]? = some Tryd.f16 := Tryd.func16
@[simp] theorem bo16 : Tryd.f16.body.isSome = true := by kernel_rfl
@[simp] theorem fu17 : Tryd.prog.funcs[(17 : Nat)]? = some Tryd.f17 := Tryd.func17
@[simp] theorem bo17 : Tryd.f17.body.isSome = true := by kernel_rfl
@[simp] theorem fu18 : Tryd.prog.funcs[(18 : Nat)]? = some Tryd.f18 := Tryd.func18
@[simp] theorem bo18 : Tryd.f18.body.isSome = true := by kernel_rfl
@[simp] theorem fu19 : Tryd.prog.funcs[(19 : Nat)]? = some Tryd.f19 := Tryd.func19
@[simp] theorem bo19 : Tryd.f19.body.isSome = true := by kernel_rfl
@[simp] theorem fu20 : Tryd.prog.funcs[(20 : Nat)]? = some Tryd.f20 := Tryd.func20
@[simp] theorem bo20 : Tryd.f20.body.isSome = true := by kernel_rfl
@[simp] theorem fu21 : Tryd.prog.funcs[(21 : Nat)]? = some Tryd.f21 := Tryd.func21
@[simp] theorem bo21 : Tryd.f21.body.isSome = true := by kernel_rfl
@[simp] theorem fu22 : Tryd.prog.funcs[(22 : Nat)]? = some Tryd.f22 := Tryd.func22
@[simp] theorem bo22 : Tryd.f22.body.isSome = true := by kernel_rfl
@[simp] theorem fu23 : Tryd.prog.funcs[(23 : Nat)]? = some Tryd.f23 := Tryd.func23
@[simp] theorem bo23 : Tryd.f23.body.isSome = true := by kernel_rfl
@[simp] theorem fu24 : Tryd.prog.funcs[(24 : Nat)]? = some Tryd.f24 := Tryd.func24
@[simp] theorem bo24 : Tryd.f24.body.isSome = true := by kernel_rfl
@[simp] theorem fu25 : Tryd.prog.funcs[(25 : Nat)]? = some Tryd.f25 := Tryd.func25
@[simp] theorem bo25 : Tryd.f25.body.isSome = true := by kernel_rfl
@[simp] theorem fu26 : Tryd.prog.funcs[(26 : Nat)]? = some Tryd.f26 := Tryd.func26
@[simp] theorem bo26 : Tryd.f26.body.isSome = true := by kernel_rfl
@[simp] theorem fu27 : Tryd.prog.funcs[(27 : Nat)]? = some Tryd.f27 := Tryd.func27
@[simp] theorem bo27 : Tryd.f27.body.isSome = true := by kernel_rfl
@[simp] theorem fu28 : Tryd.prog.funcs[(28 : Nat)]? = some Tryd.f28 := Tryd.func28
@[simp] theorem bo28 : Tryd.f28.body.isSome = true := by kernel_rfl
@[simp] theorem fu29 : Tryd.prog.funcs[(29 : Nat)]? = some Tryd.f29 := Tryd.func29
@[simp] theorem bo29 : Tryd.f29.body.isSome = true := by kernel_rfl
@[simp] theorem fu30 : Tryd.prog.funcs[(30 : Nat)]? = some Tryd.f30 := Tryd.func30
@[simp] theorem bo30 : Tryd.f30.body.isSome = true := by kernel_rfl
@[simp] theorem fu31 : Tryd.prog.funcs[(31 : Nat)]? = some Tryd.f31 := Tryd.func31
@[simp] theorem bo31 : Tryd.f31.body.isSome = true := by kernel_rfl
@[simp] theorem fu32 : Tryd.prog.funcs[(32 : Nat)]? = some Tryd.f32 := Tryd.func32
@[simp] theorem bo32 : Tryd.f32.body.isSome = true := by kernel_rfl
@[simp] theorem fu33 : Tryd.prog.funcs[(33 : Nat)]? = some Tryd.f33 := Tryd.func33
@[simp] theorem bo33 : Tryd.f33.body.isSome = true := by kernel_rfl
@[simp] theorem fu34 : Tryd.prog.funcs[(34 : Nat)]? = some Tryd.f34 := Tryd.func34
@[simp] theorem bo34 : Tryd.f34.body.isSome = true := by kernel_rfl
@[simp] theorem fu35 : Tryd.prog.funcs[(35 : Nat)]? = some Tryd.f35 := Tryd.func35
@[simp] theorem bo35 : Tryd.f35.body.isSome = true := by kernel_rfl
@[simp] theorem fu36 : Tryd.prog.funcs[(36 : Nat)]? = some Tryd.f36 := Tryd.func36
@[simp] theorem bo36 : Tryd.f36.body.isSome = true := by kernel_rfl
@[simp] theorem fu37 : Tryd.prog.funcs[(37 : Nat)]? = some Tryd.f37 := Tryd.func37
@[simp] theorem bo37 : Tryd.f37.body.isSome = true := by kernel_rfl
@[simp] theorem fu38 : Tryd.prog.funcs[(38 : Nat)]? = some Tryd.f38 := Tryd.func38
@[simp] theorem bo38 : Tryd.f38.body.isSome = true := by kernel_rfl
@[simp] theorem fu39 : Tryd.prog.funcs[(39 : Nat)]? = some Tryd.f39 := Tryd.func39
@[simp] theorem bo39 : Tryd.f39.body.isSome = true := by kernel_rfl
@[simp] theorem fu40 : Tryd.prog.funcs[(40 : Nat)]? = some Tryd.f40 := Tryd.func40
@[simp] theorem bo40 : Tryd.f40.body.isSome = true := by kernel_rfl
@[simp] theorem fu41 : Tryd.prog.funcs[(41 : Nat)]? = some Tryd.f41 := Tryd.func41
@[simp] theorem bo41 : Tryd.f41.body.isSome = true := by kernel_rfl
@[simp] theorem fu42 : Tryd.prog.funcs[(42 : Nat)]? = some Tryd.f42 := Tryd.func42
@[simp] theorem bo42 : Tryd.f42.body.isSome = true := by kernel_rfl
@[simp] theorem fu43 : Tryd.prog.funcs[(43 : Nat)]? = some Tryd.f43 := Tryd.func43
@[simp] theorem bo43 : Tryd.f43.body.isSome = true := by kernel_rfl
@[simp] theorem fu44 : Tryd.prog.funcs[(44 : Nat)]? = some Tryd.f44 := Tryd.func44
@[simp] theorem bo44 : Tryd.f44.body.isSome = true := by kernel_rfl
@[simp] theorem fu45 : Tryd.prog.funcs[(45 : Nat)]? = some Tryd.f45 := Tryd.func45
@[simp] theorem bo45 : Tryd.f45.body.isSome = true := by kernel_rfl
@[simp] theorem fu46 : Tryd.prog.funcs[(46 : Nat)]? = some Tryd.f46 := Tryd.func46
@[simp] theorem bo46 : Tryd.f46.body.isSome = true := by kernel_rfl
@[simp] theorem fu47 : Tryd.prog.funcs[(47 : Nat)]? = some Tryd.f47 := Tryd.func47
@[simp] theorem bo47 : Tryd.f47.body.isSome = true := by kernel_rfl
@[simp] theorem fu48 : Tryd.prog.funcs[(48 : Nat)]? = some Tryd.f48 := Tryd.func48
@[simp] theorem bo48 : Tryd.f48.body.isSome = true := by kernel_rfl
@[simp] theorem fu49 : Tryd.prog.funcs[(49 : Nat)]? = some Tryd.f49 := Tryd.func49
@[simp] theorem bo49 : Tryd.f49.body.isSome = true := by kernel_rfl
@[simp] theorem fu50 : Tryd.prog.funcs[(50 : Nat)]? = some Tryd.f50 := Tryd.func50
@[simp] theorem bo50 : Tryd.f50.body.isSome = true := by kernel_rfl
@[simp] theorem fu51 : Tryd.prog.funcs[(51 : Nat)]? = some Tryd.f51 := Tryd.func51
@[simp] theorem bo51 : Tryd.f51.body.isSome = true := by kernel_rfl
@[simp] theorem fu52 : Tryd.prog.funcs[(52 : Nat)]? = some Tryd.f52 := Tryd.func52
@[simp] theorem bo52 : Tryd.f52.body.isSome = true := by kernel_rfl
@[simp] theorem fu53 : Tryd.prog.funcs[(53 : Nat)]? = some Tryd.f53 := Tryd.func53
@[simp] theorem bo53 : Tryd.f53.body.isSome = true := by kernel_rfl
@[simp] theorem fu54 : Tryd.prog.funcs[(54 : Nat)]? = some Tryd.f54 := Tryd.func54
@[simp] theorem bo54 : Tryd.f54.body.isSome = true := by kernel_rfl
@[simp] theorem fu55 : Tryd.prog.funcs[(55 : Nat)]? = some Tryd.f55 := Tryd.func55
@[simp] theorem bo55 : Tryd.f55.body.isSome = true := by kernel_rfl
@[simp] theorem fu56 : Tryd.prog.funcs[(56 : Nat)]? = some Tryd.f56 := Tryd.func56
@[simp] theorem bo56 : Tryd.f56.body.isSome = true := by kernel_rfl
@[simp] theorem fu57 : Tryd.prog.funcs[(57 : Nat)]? = some Tryd.f57 := Tryd.func57
@[simp] theorem bo57 : Tryd.f57.body.isSome = true := by kernel_rfl
@[simp] theorem fu58 : Tryd.prog.funcs[(58 : Nat)]? = some Tryd.f58 := Tryd.func58
@[simp] theorem bo58 : Tryd.f58.body.isSome = true := by kernel_rfl
@[simp] theorem fu59 : Tryd.prog.funcs[(59 : Nat)]? = some Tryd.f59 := Tryd.func59
@[simp] theorem bo59 : Tryd.f59.body.isSome = true := by kernel_rfl
@[simp] theorem fu60 : Tryd.prog.funcs[(60 : Nat)]? = some Tryd.f60 := Tryd.func60
@[simp] theorem bo60 : Tryd.f60.body.isSome = true := by kernel_rfl
@[simp] theorem fu61 : Tryd.prog.funcs[(61 : Nat)]? = some Tryd.f61 := Tryd.func61
@[simp] theorem bo61 : Tryd.f61.body.isSome = true := by kernel_rfl
@[simp] theorem fu62 : Tryd.prog.funcs[(62 : Nat)]? = some Tryd.f62 := Tryd.func62
@[simp] theorem bo62 : Tryd.f62.body.isSome = true := by kernel_rfl
@[simp] theorem fu63 : Tryd.prog.funcs[(63 : Nat)]? = some Tryd.f63 := Tryd.func63
@[simp] theorem bo63 : Tryd.f63.body.isSome = false := by kernel_rfl
@[simp] theorem fu64 : Tryd.prog.funcs[(64 : Nat)]? = some Tryd.f64 := Tryd.func64
@[simp] theorem bo64 : Tryd.f64.body.isSome = true := by kernel_rfl
@[simp] theorem fu65 : Tryd.prog.funcs[(65 : Nat)]? = some Tryd.f65 := Tryd.func65
@[simp] theorem bo65 : Tryd.f65.body.isSome = true := by kernel_rfl
@[simp] theorem fu66 : Tryd.prog.funcs[(66 : Nat)]? = some Tryd.f66 := Tryd.func66
@[simp] theorem bo66 : Tryd.f66.body.isSome = true := by kernel_rfl
@[simp] theorem fu67 : Tryd.prog.funcs[(67 : Nat)]? = some Tryd.f67 := Tryd.func67
@[simp] theorem bo67 : Tryd.f67.body.isSome = false := by kernel_rfl
@[simp] theorem fu68 : Tryd.prog.funcs[(68 : Nat)]? = some Tryd.f68 := Tryd.func68
@[simp] theorem bo68 : Tryd.f68.body.isSome = true := by kernel_rfl
@[simp] theorem fu69 : Tryd.prog.funcs[(69 : Nat)]? = some Tryd.f69 := Tryd.func69
@[simp] theorem bo69 : Tryd.f69.body.isSome = true := by kernel_rfl
@[simp] theorem fu70 : Tryd.prog.funcs[(70 : Nat)]? = some Tryd.f70 := Tryd.func70
@[simp] theorem bo70 : Tryd.f70.body.isSome = true := by kernel_rfl
@[simp] theorem fu71 : Tryd.prog.funcs[(71 : Nat)]? = some Tryd.f71 := Tryd.func71
@[simp] theorem bo71 : Tryd.f71.body.isSome = true := by kernel_rfl
@[simp] theorem fu72 : Tryd.prog.funcs[(72 : Nat)]? = some Tryd.f72 := Tryd.func72
@[simp] theorem bo72 : Tryd.f72.body.isSome = true := by kernel_rfl
@[simp] theorem fu73 : Tryd.prog.funcs[(73 : Nat)]? = some Tryd.f73 := Tryd.func73
@[simp] theorem bo73 : Tryd.f73.body.isSome = true := by kernel_rfl
@[simp] theorem fu74 : Tryd.prog.funcs[(74 : Nat)]? = some Tryd.f74 := Tryd.func74
@[simp] theorem bo74 : Tryd.f74.body.isSome = true := by kernel_rfl
@[simp] theorem fu75 : Tryd.prog.funcs[(75 : Nat)]? = some Tryd.f75 := Tryd.func75
@[simp] theorem bo75 : Tryd.f75.body.isSome = true := by kernel_rfl
@[simp] theorem fu76 : Tryd.prog.funcs[(76 : Nat)]? = some Tryd.f76 := Tryd.func76
@[simp] theorem bo76 : Tryd.f76.body.isSome = true := by kernel_rfl
@[simp] theorem fu77 : Tryd.prog.funcs[(77 : Nat)]? = some Tryd.f77 := Tryd.func77
@[simp] theorem bo77 : Tryd.f77.body.isSome = true := by kernel_rfl
@[simp] theorem fu78 : Tryd.prog.funcs[(78 : Nat)]? = some Tryd.f78 := Tryd.func78
@[simp] theorem bo78 : Tryd.f78.body.isSome = true := by kernel_rfl
@[simp] theorem fu79 : Tryd.prog.funcs[(79 : Nat)]? = some Tryd.f79 := Tryd.func79
@[simp] theorem bo79 : Tryd.f79.body.isSome = true := by kernel_rfl
@[simp] theorem fu80 : Tryd.prog.funcs[(80 : Nat)]? = some Tryd.f80 := Tryd.func80
@[simp] theorem bo80 : Tryd.f80.body.isSome = true := by kernel_rfl
@[simp] theorem fu81 : Tryd.prog.funcs[(81 : Nat)]? = some Tryd.f81 := Tryd.func81
@[simp] theorem bo81 : Tryd.f81.body.isSome = true := by kernel_rfl
@[simp] theorem fu82 : Tryd.prog.funcs[(82 : Nat)]? = some Tryd.f82 := Tryd.func82
@[simp] theorem bo82 : Tryd.f82.body.isSome = true := by kernel_rfl
@[simp] theorem fu83 : Tryd.prog.funcs[(83 : Nat)]? = some Tryd.f83 := Tryd.func83
@[simp] theorem bo83 : Tryd.f83.body.isSome = true := by kernel_rfl
@[simp] theorem fu84 : Tryd.prog.funcs[(84 : Nat)]? = some Tryd.f84 := Tryd.func84
@[simp] theorem bo84 : Tryd.f84.body.isSome = true := by kernel_rfl
@[simp] theorem fu85 : Tryd.prog.funcs[(85 : Nat)]? = some Tryd.f85 := Tryd.func85
@[simp] theorem bo85 : Tryd.f85.body.isSome = true := by kernel_rfl
@[simp] theorem fu86 : Tryd.prog.funcs[(86 : Nat)]? = some Tryd.f86 := Tryd.func86
@[simp] theorem bo86 : Tryd.f86.body.isSome = true := by kernel_rfl
@[simp] theorem fu87 : Tryd.prog.funcs[(87 : Nat)]? = some Tryd.f87 := Tryd.func87
@[simp] theorem bo87 : Tryd.f87.body.isSome = true := by kernel_rfl
@[simp] theorem fu88 : Tryd.prog.funcs[(88 : Nat)]? = some Tryd.f88 := Tryd.func88
@[simp] theorem bo88 : Tryd.f88.body.isSome = true := by kernel_rfl
@[simp] theorem fu89 : Tryd.prog.funcs[(89 : Nat)]? = some Tryd.f89 := Tryd.func89
@[simp] theorem bo89 : Tryd.f89.body.isSome = true := by kernel_rfl
@[simp] theorem fu90 : Tryd.prog.funcs[(90 : Nat)]? = some Tryd.f90 := Tryd.func90
@[simp] theorem bo90 : Tryd.f90.body.isSome = true := by kernel_rfl
@[simp] theorem fu91 : Tryd.prog.funcs[(91 : Nat)]? = some Tryd.f91 := Tryd.func91
@[simp] theorem bo91 : Tryd.f91.body.isSome = true := by kernel_rfl
@[simp] theorem fu92 : Tryd.prog.funcs[(92 : Nat)]? = some Tryd.f92 := Tryd.func92
@[simp] theorem bo92 : Tryd.f92.body.isSome = true := by kernel_rfl
@[simp] theorem fu93 : Tryd.prog.funcs[(93 : Nat)]? = some Tryd.f93 := Tryd.func93
@[simp] theorem bo93 : Tryd.f93.body.isSome = true := by kernel_rfl
@[simp] theorem fu94 : Tryd.prog.funcs[(94 : Nat)]? = some Tryd.f94 := Tryd.func94
@[simp] theorem bo94 : Tryd.f94.body.isSome = true := by kernel_rfl
@[simp] theorem fu95 : Tryd.prog.funcs[(95 : Nat)]? = some Tryd.f95 := Tryd.func95
@[simp] theorem bo95 : Tryd.f95.body.isSome = true := by kernel_rfl
@[simp] theorem fu96 : Tryd.prog.funcs[(96 : Nat)]? = some Tryd.f96 := Tryd.func96
@[simp] theorem bo96 : Tryd.f96.body.isSome = true := by kernel_rfl
@[simp] theorem fu97 : Tryd.prog.funcs[(97 : Nat)]? = some Tryd.f97 := Tryd.func97
@[simp] theorem bo97 : Tryd.f97.body.isSome = false := by kernel_rfl
@[simp] theorem fu98 : Tryd.prog.funcs[(98 : Nat)]? = some Tryd.f98 := Tryd.func98
@[simp] theorem bo98 : Tryd.f98.body.isSome = true := by kernel_rfl
@[simp] theorem fu99 : Tryd.prog.funcs[(99 : Nat)]? = some Tryd.f99 := Tryd.func99
@[simp] theorem bo99 : Tryd.f99.body.isSome = false := by kernel_rfl
@[simp] theorem fu100 : Tryd.prog.funcs[(100 : Nat)]? = some Tryd.f100 := Tryd.func100
@[simp] theorem bo100 : Tryd.f100.body.isSome = false := by kernel_rfl
@[simp] theorem fu101 : Tryd.prog.funcs[(101 : Nat)]? = some Tryd.f101 := Tryd.func101
@[simp] theorem bo101 : Tryd.f101.body.isSome = false := by kernel_rfl
@[simp] theorem fu102 : Tryd.prog.funcs[(102 : Nat)]? = some Tryd.f102 := Tryd.func102
@[simp] theorem bo102 : Tryd.f102.body.isSome = false := by kernel_rfl
@[simp] theorem fu103 : Tryd.prog.funcs[(103 : Nat)]? = some Tryd.f103 := Tryd.func103
@[simp] theorem bo103 : Tryd.f103.body.isSome = false := by kernel_rfl
@[simp] theorem fu104 : Tryd.prog.funcs[(104 : Nat)]? = some Tryd.f104 := Tryd.func104
@[simp] theorem bo104 : Tryd.f104.body.isSome = false := by kernel_rfl
@[simp] theorem fu105 : Tryd.prog.funcs[(105 : Nat)]? = some Tryd.f105 := Tryd.func105
@[simp] theorem bo105 : Tryd.f105.body.isSome = false := by kernel_rfl
@[simp] theorem fu106 : Tryd.prog.funcs[(106 : Nat)]? = some Tryd.f106 := Tryd.func106
@[simp] theorem bo106 : Tryd.f106.body.isSome = false := by kernel_rfl
@[simp] theorem fu107 : Tryd.prog.funcs[(107 : Nat)]? = some Tryd.f107 := Tryd.func107
@[simp] theorem bo107 : Tryd.f107.body.isSome = false := by kernel_rfl
@[simp] theorem fu108 : Tryd.prog.funcs[(108 : Nat)]? = some Tryd.f108 := Tryd.func108
@[simp] theorem bo108 : Tryd.f108.body.isSome = false := by kernel_rfl
@[simp] theorem fu109 : Tryd.prog.funcs[(109 : Nat)]? = some Tryd.f109 := Tryd.func109
@[simp] theorem bo109 : Tryd.f109.body.isSome = false := by kernel_rfl
@[simp] theorem fu110 : Tryd.prog.funcs[(110 : Nat)]? = some Tryd.f110 := Tryd.func110
@[simp] theorem bo110 : Tryd.f110.body.isSome = false := by kernel_rfl
@[simp] theorem fu111 : Tryd.prog.funcs[(111 : Nat)]? = some Tryd.f111 := Tryd.func111
@[simp] theorem bo111 : Tryd.f111.body.isSome = false := by kernel_rfl
@[simp] theorem fu112 : Tryd.prog.funcs[(112 : Nat)]? = some Tryd.f112 := Tryd.func112
@[simp] theorem bo112 : Tryd.f112.body.isSome = false := by kernel_rfl
@[simp] theorem fu113 : Tryd.prog.funcs[(113 : Nat)]? = some Tryd.f113 := Tryd.func113
@[simp] theorem bo113 : Tryd.f113.body.isSome = false := by kernel_rfl
@[simp] theorem fu114 : Tryd.prog.funcs[(114 : Nat)]? = some Tryd.f114 := Tryd.func114
@[simp] theorem bo114 : Tryd.f114.body.isSome = false := by kernel_rfl
@[simp] theorem fu115 : Tryd.prog.funcs[(115 : Nat)]? = some Tryd.f115 := Tryd.func115
@[simp] theorem bo115 : Tryd.f115.body.isSome = false := by kernel_rfl
@[simp] theorem fu116 : Tryd.prog.funcs[(116 : Nat)]? = some Tryd.f116 := Tryd.func116
@[simp] theorem bo116 : Tryd.f116.body.isSome = false := by kernel_rfl
@[simp] theorem fu117 : Tryd.prog.funcs[(117 : Nat)]? = some Tryd.f117 := Tryd.func117
@[simp] theorem bo117 : Tryd.f117.body.isSome = false := by kernel_rfl
@[simp] theorem fu118 : Tryd.prog.funcs[(118 : Nat)]? = some Tryd.f118 := Tryd.func118
@[simp] theorem bo118 : Tryd.f118.body.isSome = false := by kernel_rfl
@[simp] theorem fu119 : Tryd.prog.funcs[(119 : Nat)]? = some Tryd.f119 := Tryd.func119
@[simp] theorem bo119 : Tryd.f119.body.isSome = false := by kernel_rfl
@[simp] theorem fu120 : Tryd.prog.funcs[(120 : Nat)]? = some Tryd.f120 := Tryd.func120
@[simp] theorem bo120 : Tryd.f120.body.isSome = true := by kernel_rfl
end Go.Proofs.YtmndbhgbngkakaaDoor.Z
