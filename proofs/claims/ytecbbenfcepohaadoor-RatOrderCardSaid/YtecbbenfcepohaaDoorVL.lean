-- Printed by this session's own program out of the translation.
import Derived.Test.YtecbbenfcepohaaDoorRW
import Derived.Test.YtecbbenfcepohaaDoorKx1
import Derived.Test.YtecbbenfcepohaaDoorKx2
import Derived.Test.YtecbbenfcepohaaDoorKx3
import Derived.Test.YtecbbenfcepohaaDoorKx4
import Derived.Test.YtecbbenfcepohaaDoorKx5
import Derived.Test.YtecbbenfcepohaaDoorV0
namespace Go.Proofs.YtecbbenfcepohaaDoor.V
open Go.RowKit Go.Proofs.YtecbbenfcepohaaDoor.K Go.Proofs.YtecbbenfcepohaaDoorW.PrintWords Go.Proofs.YtecbbenfcepohaaDoorW.PrintLast Go.Proofs.YtecbbenfcepohaaDoorW.PrintMore Go.Proofs.YtecbbenfcepohaaDoor.RW
set_option linter.unusedVariables false
set_option linter.unusedSimpArgs false
theorem samphireref02_Same.sc (k : Nat) (A0 : Option Addr) (c0 : Nat) (l0 : List Int) (A1 : Option Addr) (c1 : Nat) (l1 : List Int) (r0 : Bool) (w : World) (h0 : Row w A0 c0 l0) (h1 : Row w A1 c1 l1) (h : Aside0 (samphireref02_Same.f k l0 l1 = some r0)) :
    Calls Tryd.prog 13 #[.slice A0 l0.length c0, .slice A1 l1.length c1] w fun e w' => e = .returned (.bool r0) ∧ Below w.heap.size w w' := by
  refine (samphireref02_Same.calls k _ _ l0 _ _ l1 r0 w h0.rd h0.le h1.rd h1.le h.out).mono ?_
  rintro e w' ⟨rfl, hb⟩
  exact ⟨rfl, hb.below⟩
theorem samphireref02_Of.sc (k : Nat) (a0 : Int) (r0 : List Int) (w : World) (h : Aside0 (samphireref02_Of.f k a0 = some r0)) :
    Calls Tryd.prog 14 #[.int .u64 a0] w fun e w' => ∃ x0 y0, e = .returned (.slice x0 r0.length y0) ∧ Row w' x0 y0 r0 ∧ Below w.heap.size w w' := by
  refine (samphireref02_Of.calls k a0 r0 w  h.out).mono ?_
  rintro e w' ⟨v0, rfl, q0, hb⟩
  obtain ⟨x0, y0, rfl, u0⟩ := row_R q0
  exact ⟨x0, y0, rfl, u0, hb⟩
theorem samphireref02_Right.sc (A0 : Option Addr) (c0 : Nat) (l0 : List Int) (r0 : Bool) (w : World) (h0 : Row w A0 c0 l0) (h : Aside0 (samphireref02_Right.f l0 = some r0)) :
    Calls Tryd.prog 15 #[.slice A0 l0.length c0] w fun e w' => e = .returned (.bool r0) ∧ Below w.heap.size w w' := by
  refine (samphireref02_Right.calls _ _ l0 r0 w h0.rd h0.le h.out).mono ?_
  rintro e w' ⟨rfl, hb⟩
  exact ⟨rfl, hb.below⟩
theorem samphireref02_Mul.sc (k : Nat) (A0 : Option Addr) (c0 : Nat) (l0 : List Int) (A1 : Option Addr) (c1 : Nat) (l1 : List Int) (r0 : List Int) (w : World) (h0 : Row w A0 c0 l0) (h1 : Row w A1 c1 l1) (h : Aside0 (samphireref02_Mul.f k l0 l1 = some r0)) :
    Calls Tryd.prog 25 #[.slice A0 l0.length c0, .slice A1 l1.length c1] w fun e w' => ∃ x0 y0, e = .returned (.slice x0 r0.length y0) ∧ Row w' x0 y0 r0 ∧ Below w.heap.size w w' := by
  refine (samphireref02_Mul.calls k _ _ l0 _ _ l1 r0 w h0.rd h0.le h1.rd h1.le h.out).mono ?_
  rintro e w' ⟨v0, rfl, q0, hb⟩
  obtain ⟨x0, y0, rfl, u0⟩ := row_R q0
  exact ⟨x0, y0, rfl, u0, hb⟩
theorem nat_Right.sc (A0 : Option Addr) (c0 : Nat) (l0 : List Int) (r0 : Bool) (w : World) (h0 : Row w A0 c0 l0) (h : Aside0 (nat_Right.f l0 = some r0)) :
    Calls Tryd.prog 33 #[.slice A0 l0.length c0] w fun e w' => e = .returned (.bool r0) ∧ Below w.heap.size w w' := by
  refine (nat_Right.calls _ _ l0 r0 w h0.rd h0.le h.out).mono ?_
  rintro e w' ⟨rfl, hb⟩
  exact ⟨rfl, hb.below⟩
theorem nat_Of.sc (k : Nat) (a0 : Int) (r0 : List Int) (w : World) (h : Aside0 (nat_Of.f k a0 = some r0)) :
    Calls Tryd.prog 35 #[.int .u64 a0] w fun e w' => ∃ x0 y0, e = .returned (.slice x0 r0.length y0) ∧ Row w' x0 y0 r0 ∧ Below w.heap.size w w' := by
  refine (nat_Of.calls k a0 r0 w  h.out).mono ?_
  rintro e w' ⟨v0, rfl, q0, hb⟩
  obtain ⟨x0, y0, rfl, u0⟩ := row_R q0
  exact ⟨x0, y0, rfl, u0, hb⟩
theorem samphireref02_Gcd.sc (k : Nat) (A0 : Option Addr) (c0 : Nat) (l0 : List Int) (A1 : Option Addr) (c1 : Nat) (l1 : List Int) (r0 : List Int) (w : World) (h0 : Row w A0 c0 l0) (h1 : Row w A1 c1 l1) (h : Aside0 (samphireref02_Gcd.f k l0 l1 = some r0)) :
    Calls Tryd.prog 38 #[.slice A0 l0.length c0, .slice A1 l1.length c1] w fun e w' => ∃ x0 y0, e = .returned (.slice x0 r0.length y0) ∧ Row w' x0 y0 r0 ∧ Below w.heap.size w w' := by
  refine (samphireref02_Gcd.calls k (fun k_ => k_ < w.heap.size) _ _ l0 (fun k_ => k_ < w.heap.size) _ _ l1 r0 w (h0.V _ _) (h1.V _ _) h.out).mono ?_
  rintro e w' ⟨v0, rfl, q0, hb⟩
  obtain ⟨x0, y0, rfl, u0⟩ := row_V q0
  exact ⟨x0, y0, rfl, u0, hb⟩
theorem samphireref02_Div.sc (k : Nat) (A0 : Option Addr) (c0 : Nat) (l0 : List Int) (A1 : Option Addr) (c1 : Nat) (l1 : List Int) (r0 : List Int) (r1 : List Int) (w : World) (h0 : Row w A0 c0 l0) (h1 : Row w A1 c1 l1) (h : Aside0 (samphireref02_Div.f k l0 l1 = some (r0, r1))) :
    Calls Tryd.prog 39 #[.slice A0 l0.length c0, .slice A1 l1.length c1] w fun e w' => ∃ x0 y0 x1 y1, e = .returned (.tuple #[.slice x0 r0.length y0, .slice x1 r1.length y1]) ∧ Row w' x0 y0 r0 ∧ Row w' x1 y1 r1 ∧ Below w.heap.size w w' := by
  refine (samphireref02_Div.calls k _ _ l0 _ _ l1 r0 r1 w h0.rd h0.le h1.rd h1.le h.out).mono ?_
  rintro e w' ⟨v0, v1, rfl, q0, q1, hb⟩
  obtain ⟨x0, y0, rfl, u0⟩ := row_R q0
  obtain ⟨x1, y1, rfl, u1⟩ := row_R q1
  exact ⟨x0, y0, x1, y1, rfl, u0, u1, hb⟩
theorem nat_Gcd.sc (k : Nat) (A0 : Option Addr) (c0 : Nat) (l0 : List Int) (A1 : Option Addr) (c1 : Nat) (l1 : List Int) (r0 : List Int) (r1 : Int) (w : World) (h0 : Row w A0 c0 l0) (h1 : Row w A1 c1 l1) (h : Aside0 (nat_Gcd.f k l0 l1 = some (r0, r1))) :
    Calls Tryd.prog 40 #[.slice A0 l0.length c0, .slice A1 l1.length c1] w fun e w' => ∃ x0 y0, e = .returned (.tuple #[.slice x0 r0.length y0, .int .i64 r1]) ∧ Row w' x0 y0 r0 ∧ Below w.heap.size w w' := by
  refine (nat_Gcd.calls k (fun k_ => k_ < w.heap.size) _ _ l0 (fun k_ => k_ < w.heap.size) _ _ l1 r0 r1 w (h0.V _ _) (h1.V _ _) h.out).mono ?_
  rintro e w' ⟨v0, rfl, q0, hb⟩
  obtain ⟨x0, y0, rfl, u0⟩ := row_R q0
  exact ⟨x0, y0, rfl, u0, hb⟩
theorem nat_Cmp.sc (k : Nat) (A0 : Option Addr) (c0 : Nat) (l0 : List Int) (A1 : Option Addr) (c1 : Nat) (l1 : List Int) (r0 : Int) (w : World) (h0 : Row w A0 c0 l0) (h1 : Row w A1 c1 l1) (h : Aside0 (nat_Cmp.f k l0 l1 = some r0)) :
    Calls Tryd.prog 41 #[.slice A0 l0.length c0, .slice A1 l1.length c1] w fun e w' => e = .returned (.int .i64 r0) ∧ Below w.heap.size w w' := by
  refine (nat_Cmp.calls k _ _ l0 _ _ l1 r0 w h0.rd h0.le h1.rd h1.le h.out).mono ?_
  rintro e w' ⟨rfl, hb⟩
  exact ⟨rfl, hb⟩
theorem nat_Sub.sc (k : Nat) (A0 : Option Addr) (c0 : Nat) (l0 : List Int) (A1 : Option Addr) (c1 : Nat) (l1 : List Int) (r0 : List Int) (r1 : Int) (w : World) (h0 : Row w A0 c0 l0) (h1 : Row w A1 c1 l1) (h : Aside0 (nat_Sub.f k l0 l1 = some (r0, r1))) :
    Calls Tryd.prog 45 #[.slice A0 l0.length c0, .slice A1 l1.length c1] w fun e w' => ∃ x0 y0, e = .returned (.tuple #[.slice x0 r0.length y0, .int .i64 r1]) ∧ Row w' x0 y0 r0 ∧ Below w.heap.size w w' := by
  refine (nat_Sub.calls k _ _ l0 _ _ l1 r0 r1 w h0.rd h0.le h1.rd h1.le h.out).mono ?_
  rintro e w' ⟨v0, rfl, q0, hb⟩
  obtain ⟨x0, y0, rfl, u0⟩ := row_R q0
  exact ⟨x0, y0, rfl, u0, hb⟩
theorem nat_Add.sc (k : Nat) (A0 : Option Addr) (c0 : Nat) (l0 : List Int) (A1 : Option Addr) (c1 : Nat) (l1 : List Int) (r0 : List Int) (r1 : Int) (w : World) (h0 : Row w A0 c0 l0) (h1 : Row w A1 c1 l1) (h : Aside0 (nat_Add.f k l0 l1 = some (r0, r1))) :
    Calls Tryd.prog 46 #[.slice A0 l0.length c0, .slice A1 l1.length c1] w fun e w' => ∃ x0 y0, e = .returned (.tuple #[.slice x0 r0.length y0, .int .i64 r1]) ∧ Row w' x0 y0 r0 ∧ Below w.heap.size w w' := by
  refine (nat_Add.calls k _ _ l0 _ _ l1 r0 r1 w h0.rd h0.le h1.rd h1.le h.out).mono ?_
  rintro e w' ⟨v0, rfl, q0, hb⟩
  obtain ⟨x0, y0, rfl, u0⟩ := row_R q0
  exact ⟨x0, y0, rfl, u0, hb⟩
theorem nat_Text.sc (k : Nat) (A0 : Option Addr) (c0 : Nat) (l0 : List Int) (r0 : ByteArray) (w : World) (h0 : Row w A0 c0 l0) (h : Aside0 (nat_Text.f k l0 = some r0)) :
    Calls Tryd.prog 49 #[.slice A0 l0.length c0] w fun e w' => e = .returned (.string r0) ∧ Below w.heap.size w w' := by
  refine (nat_Text.calls k (fun k_ => k_ < w.heap.size) _ _ l0 r0 w (h0.V _ _) h.out).mono ?_
  rintro e w' ⟨rfl, hb⟩
  exact ⟨rfl, hb⟩
theorem samphireref02_Cmp.sc (k : Nat) (A0 : Option Addr) (c0 : Nat) (l0 : List Int) (A1 : Option Addr) (c1 : Nat) (l1 : List Int) (r0 : Int) (w : World) (h0 : Row w A0 c0 l0) (h1 : Row w A1 c1 l1) (h : Aside0 (samphireref02_Cmp.f k l0 l1 = some r0)) :
    Calls Tryd.prog 51 #[.slice A0 l0.length c0, .slice A1 l1.length c1] w fun e w' => e = .returned (.int .i64 r0) ∧ Below w.heap.size w w' := by
  refine (samphireref02_Cmp.calls k _ _ l0 _ _ l1 r0 w h0.rd h0.le h1.rd h1.le h.out).mono ?_
  rintro e w' ⟨rfl, hb⟩
  exact ⟨rfl, hb.below⟩
theorem samphireref02_Text.sc (k : Nat) (A0 : Option Addr) (c0 : Nat) (l0 : List Int) (r0 : ByteArray) (w : World) (h0 : Row w A0 c0 l0) (h : Aside0 (samphireref02_Text.f k l0 = some r0)) :
    Calls Tryd.prog 52 #[.slice A0 l0.length c0] w fun e w' => e = .returned (.string r0) ∧ Below w.heap.size w w' := by
  refine (samphireref02_Text.calls k (fun k_ => k_ < w.heap.size) _ _ l0 r0 w (h0.V _ _) h.out).mono ?_
  rintro e w' ⟨rfl, hb⟩
  exact ⟨rfl, hb⟩
theorem samphireref02_Sub.sc (k : Nat) (A0 : Option Addr) (c0 : Nat) (l0 : List Int) (A1 : Option Addr) (c1 : Nat) (l1 : List Int) (r0 : List Int) (w : World) (h0 : Row w A0 c0 l0) (h1 : Row w A1 c1 l1) (h : Aside0 (samphireref02_Sub.f k l0 l1 = some r0)) :
    Calls Tryd.prog 53 #[.slice A0 l0.length c0, .slice A1 l1.length c1] w fun e w' => ∃ x0 y0, e = .returned (.slice x0 r0.length y0) ∧ Row w' x0 y0 r0 ∧ Below w.heap.size w w' := by
  refine (samphireref02_Sub.calls k _ _ l0 _ _ l1 r0 w h0.rd h0.le h1.rd h1.le h.out).mono ?_
  rintro e w' ⟨v0, rfl, q0, hb⟩
  obtain ⟨x0, y0, rfl, u0⟩ := row_R q0
  exact ⟨x0, y0, rfl, u0, hb⟩
theorem samphireref02_Add.sc (k : Nat) (A0 : Option Addr) (c0 : Nat) (l0 : List Int) (A1 : Option Addr) (c1 : Nat) (l1 : List Int) (r0 : List Int) (w : World) (h0 : Row w A0 c0 l0) (h1 : Row w A1 c1 l1) (h : Aside0 (samphireref02_Add.f k l0 l1 = some r0)) :
    Calls Tryd.prog 54 #[.slice A0 l0.length c0, .slice A1 l1.length c1] w fun e w' => ∃ x0 y0, e = .returned (.slice x0 r0.length y0) ∧ Row w' x0 y0 r0 ∧ Below w.heap.size w w' := by
  refine (samphireref02_Add.calls k _ _ l0 _ _ l1 r0 w h0.rd h0.le h1.rd h1.le h.out).mono ?_
  rintro e w' ⟨v0, rfl, q0, hb⟩
  obtain ⟨x0, y0, rfl, u0⟩ := row_R q0
  exact ⟨x0, y0, rfl, u0, hb⟩
theorem nat_Div.sc (k : Nat) (A0 : Option Addr) (c0 : Nat) (l0 : List Int) (A1 : Option Addr) (c1 : Nat) (l1 : List Int) (r0 : List Int) (r1 : List Int) (r2 : Int) (w : World) (h0 : Row w A0 c0 l0) (h1 : Row w A1 c1 l1) (h : Aside0 (nat_Div.f k l0 l1 = some (r0, r1, r2))) :
    Calls Tryd.prog 55 #[.slice A0 l0.length c0, .slice A1 l1.length c1] w fun e w' => ∃ x0 y0 x1 y1, e = .returned (.tuple #[.slice x0 r0.length y0, .slice x1 r1.length y1, .int .i64 r2]) ∧ Row w' x0 y0 r0 ∧ Row w' x1 y1 r1 ∧ Below w.heap.size w w' := by
  refine (nat_Div.calls k _ _ l0 _ _ l1 r0 r1 r2 w h0.rd h0.le h1.rd h1.le h.out).mono ?_
  rintro e w' ⟨v0, v1, rfl, q0, q1, hb⟩
  obtain ⟨x0, y0, rfl, u0⟩ := row_R q0
  obtain ⟨x1, y1, rfl, u1⟩ := row_R q1
  exact ⟨x0, y0, x1, y1, rfl, u0, u1, hb⟩
theorem nat_Mul.sc (k : Nat) (A0 : Option Addr) (c0 : Nat) (l0 : List Int) (A1 : Option Addr) (c1 : Nat) (l1 : List Int) (r0 : List Int) (r1 : Int) (w : World) (h0 : Row w A0 c0 l0) (h1 : Row w A1 c1 l1) (h : Aside0 (nat_Mul.f k l0 l1 = some (r0, r1))) :
    Calls Tryd.prog 64 #[.slice A0 l0.length c0, .slice A1 l1.length c1] w fun e w' => ∃ x0 y0, e = .returned (.tuple #[.slice x0 r0.length y0, .int .i64 r1]) ∧ Row w' x0 y0 r0 ∧ Below w.heap.size w w' := by
  refine (nat_Mul.calls k _ _ l0 _ _ l1 r0 r1 w h0.rd h0.le h1.rd h1.le h.out).mono ?_
  rintro e w' ⟨v0, rfl, q0, hb⟩
  obtain ⟨x0, y0, rfl, u0⟩ := row_R q0
  exact ⟨x0, y0, rfl, u0, hb⟩
end Go.Proofs.YtecbbenfcepohaaDoor.V
