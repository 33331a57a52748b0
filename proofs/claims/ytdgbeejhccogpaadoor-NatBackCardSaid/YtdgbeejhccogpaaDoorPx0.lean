-- Printed by this session's own program out of the translation.
import Derived.Test.YtdgbeejhccogpaaDoorProg
import Derived.Handy
import Derived.WalkSpells
import Derived.Test.YtdgbeejhccogpaaDoorShelf
import Derived.Below
import Derived.Deep.Draws
import Derived.Deep.AppendLies
import Derived.Maps.AppendAt
import Derived.OwnWalk
import Derived.Laws.BytesArg
import Derived.Laws.MakeOwn
import Derived.Laws.OwnMore
import Derived.Deep.OwnRows
import Derived.Tactics
import Derived.Lib.ConvBytes
import Derived.Laws.Slices
import Derived.WalkKit
import Derived.KernelRfl
import Derived.RowKit3
import Derived.Deep.LoopGhost
import Derived.Deep.QuietTactic
import Derived.BigQuiet
import Derived.WideLaws
import Derived.Deep.DeepCutAuto
import Derived.Deep.CutBlock
import Derived.Deep.RegionHeld3
import Derived.Laws.Rows
import Derived.Lib.AppendStr
import Derived.ArgAppend
import Derived.Laws.IdiomCopy
import Derived.OrdersHeld
import Derived.Laws.BitsLemmas
import Derived.RowKit
import Derived.Test.YtdgbeejhccogpaaDoorWWords
import Derived.Test.YtdgbeejhccogpaaDoorWLast
import Derived.Test.YtdgbeejhccogpaaDoorWTab
import Derived.Test.YtdgbeejhccogpaaDoorWFour
import Derived.Test.YtdgbeejhccogpaaDoorWQPut
import Derived.Test.YtdgbeejhccogpaaDoorWApart
import Derived.Test.YtdgbeejhccogpaaDoorWArr
import Derived.Test.YtdgbeejhccogpaaDoorWZeros
import Derived.Test.YtdgbeejhccogpaaDoorWFoot
import Derived.Test.YtdgbeejhccogpaaDoorWKept
import Derived.Test.YtdgbeejhccogpaaDoorWShare
import Derived.Test.YtdgbeejhccogpaaDoorWN
import Derived.Test.YtdgbeejhccogpaaDoorWFootNe
import Derived.Test.YtdgbeejhccogpaaDoorWAt
import Derived.Test.YtdgbeejhccogpaaDoorWEqStruct
import Derived.Test.YtdgbeejhccogpaaDoorWRepsOne
import Derived.Test.YtdgbeejhccogpaaDoorWInv
import Derived.Test.YtdgbeejhccogpaaDoorWInvWords
import Derived.Test.YtdgbeejhccogpaaDoorWGuard
import Derived.Test.YtdgbeejhccogpaaDoorWNEv
import Derived.Test.YtdgbeejhccogpaaDoorWMore
namespace Go.Proofs.YtdgbeejhccogpaaDoor.P
open Go.RowKit Go.Proofs.YtdgbeejhccogpaaDoorW.PrintWords Go.Proofs.YtdgbeejhccogpaaDoorW.PrintLast Go.Proofs.YtdgbeejhccogpaaDoorW.PrintMore
attribute [local go_sem] max2_int min2_int max_two min_two max_three min_three max_four min_four   -- for this text's walks alone
set_option linter.unusedVariables false
set_option linter.unusedSimpArgs false



def errW : Option Int → Value
  | none => .nilIface
  | some c => .iface 0 (.int .i64 c)
theorem errW_none : errW none = .nilIface := rfl
theorem errW_some (c : Int) : errW (some c) = .iface 0 (.int .i64 c) := rfl

theorem BL {n : Nat} {w0 w : World} (h : Below n w0 w := by repeat (first | (with_reducible first | exact HB.out | apply below_alloc | apply pw_below_drewN | apply below_drew1) | exact HB.out)) : Below n w0 w := h
theorem RL {α : Type} {d : Kd α} {e base : Nat} {W W1 : World} {ok : Nat → Prop} {v : Value} {xs : List α} (_h : Aside0 (Kd.R d e W base ok v xs)) (h : Kd.R d e W1 base ok v xs := by (with_reducible repeat (first | apply Kd.R_alloc | apply Kd.R_drewN | apply Kd.R_drew)); exact Aside0.out (by assumption)) : Kd.R d e W1 base ok v xs := h
theorem EQ {α : Type} {a b : α} (h : a = b := by (try simp only [List.map_toArray, List.map_cons, List.map_nil]); first | done | rfl | (simp only [List.length_drop, List.length_take]; rfl)) : a = b := h
theorem DA {P : Prop} [Decidable P] (h : decide P = true := by first | (with_reducible assumption) | assumption) : P := of_decide_eq_true h
theorem CB {α : Type} {d : Kd α} {W W1 : World} {A : Option Addr} {n : Nat} {xs : List α} (_h : Aside0 (Kd.C d W A n xs)) (h : Kd.C d W1 A n xs := by repeat (first | exact (Kd.C_below (Aside0.out (by assumption)) HB.out) | (with_reducible refine Kd.C_alloc ?_ _) | (with_reducible refine Kd.C_drewN ?_ _) | (with_reducible refine Kd.C_drew ?_))) : Kd.C d W1 A n xs := h
theorem RR {α : Type} {d : Kd α} {e base : Nat} {W W1 : World} {ok : Nat → Prop} {A : Option Addr} {n c : Nat} {xs : List α} (_h : Aside0 (Kd.R d e W base ok (.slice A n c) xs)) (h : Kd.C d W1 A n xs := by repeat (first | exact (Kd.R_reads' (Aside0.out (by assumption))).2.2 | (with_reducible refine Kd.C_alloc ?_ _) | (with_reducible refine Kd.C_drewN ?_ _) | (with_reducible refine Kd.C_drew ?_))) : Kd.C d W1 A n xs := h
theorem ite_p {P : Prop} [Decidable P] {α : Type} {A : Option α} {r : α} (H : (if P then A else none) = some r) : P ∧ A = some r := by
  by_cases c : P
  · rw [if_pos c] at H; exact ⟨c, H⟩
  · rw [if_neg c] at H; cases H
theorem ite_n {P : Prop} [Decidable P] {α : Type} {A : Option α} {r : α} (H : (if P then none else A) = some r) : ¬P ∧ A = some r := by
  by_cases c : P
  · rw [if_pos c] at H; cases H
  · rw [if_neg c] at H; exact ⟨c, H⟩
theorem bind_p {α β : Type} {g : Option α} {f : α → Option β} {r : β} (H : g.bind f = some r) : ∃ a, Aside0 (g = some a) ∧ f a = some r := by
  obtain ⟨a, h1, h2⟩ := Option.bind_eq_some_iff.mp H
  exact ⟨a, ⟨h1⟩, h2⟩
theorem some_p {α β : Type} {x : α} {f : α → Option β} {r : β} (H : (some x).bind f = some r) : ∃ y, Aside0 (y = x) ∧ f y = some r := ⟨x, ⟨rfl⟩, H⟩
theorem let_p {α : Type} (x : α) : ∃ y, Aside0 (y = x) := ⟨x, ⟨rfl⟩⟩
theorem let_j (x : Int) : ∃ j_ : Int, x = j_ := ⟨_, rfl⟩
theorem ownBlock_len (A : Option Addr) (n m c c' : Nat) : (Value.slice A n c).ownBlock = (Value.slice A m c').ownBlock := by cases A <;> rfl
theorem isEmpty_bne (l : List UInt8) : l.isEmpty = !(l != []) := by cases l <;> rfl
theorem u64_u8 (x : Int) : IntKind.u64.wrap (IntKind.u8.wrap x) = x % 256 := by
  have h1 : IntKind.u8.wrap x = x % 256 := by simp [IntKind.wrap, IntKind.bits, IntKind.signed]
  have h2 : IntKind.u64.wrap (x % 256) = (x % 256) % 18446744073709551616 := by simp [IntKind.wrap, IntKind.bits, IntKind.signed]
  rw [h1, h2]
  omega
theorem info5 : (Tryd.prog.info? 5).map (fun i => (i.zero, i.size, i.bytes)) = some (some (.int .u8 0), 1, 1) := by kernel_rfl
theorem info36 : (Tryd.prog.info? 36).map (fun i => (i.zero, i.size, i.bytes)) = some (some (.int .u32 0), 1, 4) := by kernel_rfl
theorem info37 : (Tryd.prog.info? 37).map (fun i => (i.zero, i.size, i.bytes)) = some (some (.int .u64 0), 1, 8) := by kernel_rfl
-- the values' own types

def samphireref02_Small.f (l0 : List Int) : Option (Bool) := some (decide ((l0.length : Int) ≤ 70))
def nat_Right.f (l0 : List Int) : Option (Bool) := if (l0.length : Int) ≤ 64 then (if (l0.length : Int) = 0 then (some true) else (if 0 ≤ (wrap64 ((l0.length : Int) - 1)) then (if (wrap64 ((l0.length : Int) - 1)) < (l0.length : Int) then (some ((rd l0 (wrap64 ((l0.length : Int) - 1))) != 0)) else (none)) else (none))) else (some false)
def nat_trim.l0 : Nat → List Int → Int → Option (List Int)
  | 0, _, _ => none
  | k + 1, x0, x3 => if x3 > 0 then (if 0 ≤ (wrap64 (x3 - 1)) then (if (wrap64 (x3 - 1)) < (x0.length : Int) then (if (rd x0 (wrap64 (x3 - 1))) = 0 then (nat_trim.l0 k x0 (wrap64 (x3 - 1))) else (if 0 ≤ x3 then (if x3 ≤ (x0.length : Int) then (some (x0.take (x3 : Int).toNat)) else (none)) else (none))) else (none)) else (none)) else (if 0 ≤ x3 then (if x3 ≤ (x0.length : Int) then (some (x0.take (x3 : Int).toNat)) else (none)) else (none))
def nat_trim.f (k : Nat) (l0 : List Int) : Option (List Int) := nat_trim.l0 k l0 (l0.length : Int)
def nat_Of.f (k : Nat) (a0 : Int) : Option (List Int) := (nat_trim.f k (([(a0) % 4294967296, (a0 / 4294967296) % 4294967296] : List Int))).bind fun t112 => (some t112)
def api_Nat_uint32.f (l0 : List Int) : Option (List Int) := (some (([] : List Int) : List Int)).bind fun y115 => (if y115.length + l0.length < 35184372088832 then (some (y115 ++ l0)) else (none))
def nat_short.l0 : Nat → List Int → Int → List Int → Int → Int → Option (List Int × Int)
  | 0, _, _, _, _, _ => none
  | k + 1, x0, x1, x6, x7, x8 => if x8 ≥ 0 then (if 0 ≤ x8 then (if x8 < (x0.length : Int) then (if (IntKind.u64.wrap (x1)) = 0 then (none) else (if x8 < (x6.length : Int) then (nat_short.l0 k x0 x1 (x6.set (x8 : Int).toNat ((IntKind.u64.wrap (Int.tdiv (Go.bits .or .u64 (IntKind.u64.wrap (x7 * 4294967296)) (IntKind.u64.wrap (rd x0 x8))) (IntKind.u64.wrap (x1)))) % 4294967296)) (Int.tmod (Go.bits .or .u64 (IntKind.u64.wrap (x7 * 4294967296)) (IntKind.u64.wrap (rd x0 x8))) (IntKind.u64.wrap (x1))) (wrap64 (x8 - 1))) else (none))) else (none)) else (none)) else ((nat_trim.f k x6).bind fun t126 => (some (t126, (x7) % 4294967296)))
def nat_short.f (k : Nat) (l0 : List Int) (a1 : Int) : Option (List Int × Int) := if 0 ≤ (l0.length : Int) then (if ((l0.length : Int) : Int).toNat ≤ 70368744177664 then (nat_short.l0 k l0 a1 (List.replicate ((l0.length : Int) : Int).toNat 0) 0 (wrap64 ((l0.length : Int) - 1))) else (none)) else (none)
def nat_order.l0 : Nat → List Int → List Int → Int → Option (Int)
  | 0, _, _, _ => none
  | k + 1, x0, x1, x5 => if x5 ≥ 0 then (if 0 ≤ x5 then (if x5 < (x0.length : Int) then (if x5 < (x1.length : Int) then (if (rd x0 x5) < (rd x1 x5) then (some (-1)) else (if (rd x0 x5) > (rd x1 x5) then (some 1) else (nat_order.l0 k x0 x1 (wrap64 (x5 - 1))))) else (none)) else (none)) else (none)) else (some 0)
def nat_order.f (k : Nat) (l0 : List Int) (l1 : List Int) : Option (Int) := if (l0.length : Int) = (l1.length : Int) then (nat_order.l0 k l0 l1 (wrap64 ((l0.length : Int) - 1))) else (some ((2 * (mn (mx (wrap64 ((l0.length : Int) - (l1.length : Int))) 0) 1)) - 1))
def bits_Len32.f (a0 : Int) : Option Int := if 0 ≤ a0 ∧ a0 ≤ 4294967295 then some ((Lib.bitLen a0.toNat : Nat) : Int) else none
def bits_LeadingZeros32.f (a0 : Int) : Option (Int) := (bits_Len32.f a0).bind fun t133 => (some (wrap64 (32 - t133)))
def nat_shift.l0 : Nat → List Int → Int → List Int → Int → List Int → Int → Int → Option (List Int)
  | 0, _, _, _, _, _, _, _ => none
  | k + 1, x0, x1, x5, x6, x13, x14, x15 => if x15 < x14 then (if 0 ≤ x15 then (if x15 < (x13.length : Int) then (if 0 ≤ x1 then (if x15 < (x5.length : Int) then (if 0 ≤ (wrap64 (32 - x1)) then (nat_shift.l0 k x0 x1 (x5.set (x15 : Int).toNat (Go.bits .or .u32 (shl .u32 (rd x13 x15) x1) x6)) ((shr .u64 (IntKind.u64.wrap (rd x13 x15)) (wrap64 (32 - x1))) % 4294967296) x13 x14 (wrap64 (x15 + 1))) else (none)) else (none)) else (none)) else (none)) else (none)) else (if 0 ≤ (x0.length : Int) then (if (x0.length : Int) < (x5.length : Int) then (some (x5.set ((x0.length : Int) : Int).toNat x6)) else (none)) else (none))
def nat_shift.f (k : Nat) (l0 : List Int) (a1 : Int) : Option (List Int) := if 0 ≤ (wrap64 ((l0.length : Int) + 1)) then (if (wrap64 ((l0.length : Int) + 1) : Int).toNat ≤ 70368744177664 then (nat_shift.l0 k l0 a1 (List.replicate (wrap64 ((l0.length : Int) + 1) : Int).toNat 0) 0 l0 (l0.length : Int) 0) else (none)) else (none)
mutual
def nat_guess.l0 : Nat → List Int → List Int → Int → Int → Int → Int → Option (Int)
  | 0, _, _, _, _, _, _ => none
  | k + 1, x0, x1, x2, x7, x9, x10 => if x9 > 4294967295 then (nat_guess.j1 k x0 x1 x2 x7 x9 x10 true) else (if 0 ≤ (wrap64 (x7 - 2)) then (if (wrap64 (x7 - 2)) < (x1.length : Int) then (if 0 ≤ (wrap64 ((wrap64 (x2 + x7)) - 2)) then (if (wrap64 ((wrap64 (x2 + x7)) - 2)) < (x0.length : Int) then (nat_guess.j1 k x0 x1 x2 x7 x9 x10 (decide ((IntKind.u64.wrap (x9 * (IntKind.u64.wrap (rd x1 (wrap64 (x7 - 2)))))) > (Go.bits .or .u64 (IntKind.u64.wrap (x10 * 4294967296)) (IntKind.u64.wrap (rd x0 (wrap64 ((wrap64 (x2 + x7)) - 2)))))))) else (none)) else (none)) else (none)) else (none))
def nat_guess.j1 : Nat → List Int → List Int → Int → Int → Int → Int → Bool → Option (Int)
  | 0, _, _, _, _, _, _, _ => none
  | k + 1, x0, x1, x2, x7, x9, x10, x69 => if x69 = true then (if 0 ≤ (wrap64 (x7 - 1)) then (if (wrap64 (x7 - 1)) < (x1.length : Int) then (if (IntKind.u64.wrap (x10 + (IntKind.u64.wrap (rd x1 (wrap64 (x7 - 1)))))) > 4294967295 then (some (IntKind.u64.wrap (x9 - 1))) else (nat_guess.l0 k x0 x1 x2 x7 (IntKind.u64.wrap (x9 - 1)) (IntKind.u64.wrap (x10 + (IntKind.u64.wrap (rd x1 (wrap64 (x7 - 1)))))))) else (none)) else (none)) else (some x9)
end
def nat_guess.f (k : Nat) (l0 : List Int) (l1 : List Int) (a2 : Int) : Option (Int) := if 0 ≤ (wrap64 (a2 + (l1.length : Int))) then (if (wrap64 (a2 + (l1.length : Int))) < (l0.length : Int) then (if 0 ≤ (wrap64 ((wrap64 (a2 + (l1.length : Int))) - 1)) then (if (wrap64 ((wrap64 (a2 + (l1.length : Int))) - 1)) < (l0.length : Int) then (if 0 ≤ (wrap64 ((l1.length : Int) - 1)) then (if (wrap64 ((l1.length : Int) - 1)) < (l1.length : Int) then (if (IntKind.u64.wrap (rd l1 (wrap64 ((l1.length : Int) - 1)))) = 0 then (none) else (nat_guess.l0 k l0 l1 a2 (l1.length : Int) (IntKind.u64.wrap (Int.tdiv (Go.bits .or .u64 (IntKind.u64.wrap ((IntKind.u64.wrap (rd l0 (wrap64 (a2 + (l1.length : Int))))) * 4294967296)) (IntKind.u64.wrap (rd l0 (wrap64 ((wrap64 (a2 + (l1.length : Int))) - 1))))) (IntKind.u64.wrap (rd l1 (wrap64 ((l1.length : Int) - 1)))))) (Int.tmod (Go.bits .or .u64 (IntKind.u64.wrap ((IntKind.u64.wrap (rd l0 (wrap64 (a2 + (l1.length : Int))))) * 4294967296)) (IntKind.u64.wrap (rd l0 (wrap64 ((wrap64 (a2 + (l1.length : Int))) - 1))))) (IntKind.u64.wrap (rd l1 (wrap64 ((l1.length : Int) - 1))))))) else (none)) else (none)) else (none)) else (none)) else (none)) else (none)
def nat_take.l0 : Nat → List Int → List Int → Int → Int → Int → Int → Int → Int → Option (Bool × List Int)
  | 0, _, _, _, _, _, _, _, _ => none
  | k + 1, x0, x1, x2, x3, x9, x10, x15, x16 => if x16 < x15 then (if 0 ≤ x16 then (if x16 < (x1.length : Int) then (if 0 ≤ (wrap64 (x2 + x16)) then (if (wrap64 (x2 + x16)) < (x0.length : Int) then (nat_take.l0 k (x0.set ((wrap64 (x2 + x16)) : Int).toNat ((IntKind.u64.wrap ((IntKind.u64.wrap ((IntKind.u64.wrap (rd x0 (wrap64 (x2 + x16)))) - ((IntKind.u64.wrap (x9 + (IntKind.u64.wrap (x3 * (IntKind.u64.wrap (rd x1 x16)))))) % 4294967296))) - x10)) % 4294967296)) x1 x2 x3 ((IntKind.u64.wrap (x9 + (IntKind.u64.wrap (x3 * (IntKind.u64.wrap (rd x1 x16)))))) / 4294967296) ((IntKind.u64.wrap ((IntKind.u64.wrap ((IntKind.u64.wrap (rd x0 (wrap64 (x2 + x16)))) - ((IntKind.u64.wrap (x9 + (IntKind.u64.wrap (x3 * (IntKind.u64.wrap (rd x1 x16)))))) % 4294967296))) - x10)) / 9223372036854775808) x15 (wrap64 (x16 + 1))) else (none)) else (none)) else (none)) else (none)) else (if 0 ≤ (wrap64 (x2 + (x1.length : Int))) then (if (wrap64 (x2 + (x1.length : Int))) < (x0.length : Int) then (some ((((IntKind.u64.wrap ((IntKind.u64.wrap ((IntKind.u64.wrap (rd x0 (wrap64 (x2 + (x1.length : Int))))) - x9)) - x10)) / 9223372036854775808) != 0), (x0.set ((wrap64 (x2 + (x1.length : Int))) : Int).toNat ((IntKind.u64.wrap ((IntKind.u64.wrap ((IntKind.u64.wrap (rd x0 (wrap64 (x2 + (x1.length : Int))))) - x9)) - x10)) % 4294967296)))) else (none)) else (none))
def nat_take.f (k : Nat) (l0 : List Int) (l1 : List Int) (a2 : Int) (a3 : Int) : Option (Bool × List Int) := nat_take.l0 k l0 l1 a2 a3 0 0 (l1.length : Int) 0
def nat_give.l0 : Nat → List Int → List Int → Int → Int → Int → Int → Option (List Int)
  | 0, _, _, _, _, _, _ => none
  | k + 1, x0, x1, x2, x6, x9, x10 => if x10 < x9 then (if 0 ≤ (wrap64 (x2 + x10)) then (if (wrap64 (x2 + x10)) < (x0.length : Int) then (if 0 ≤ x10 then (if x10 < (x1.length : Int) then (nat_give.l0 k (x0.set ((wrap64 (x2 + x10)) : Int).toNat ((IntKind.u64.wrap (x6 + (IntKind.u64.wrap ((IntKind.u64.wrap (rd x0 (wrap64 (x2 + x10)))) + (IntKind.u64.wrap (rd x1 x10)))))) % 4294967296)) x1 x2 ((IntKind.u64.wrap (x6 + (IntKind.u64.wrap ((IntKind.u64.wrap (rd x0 (wrap64 (x2 + x10)))) + (IntKind.u64.wrap (rd x1 x10)))))) / 4294967296) x9 (wrap64 (x10 + 1))) else (none)) else (none)) else (none)) else (none)) else (if 0 ≤ (wrap64 (x2 + (x1.length : Int))) then (if (wrap64 (x2 + (x1.length : Int))) < (x0.length : Int) then (some (x0.set ((wrap64 (x2 + (x1.length : Int))) : Int).toNat (((rd x0 (wrap64 (x2 + (x1.length : Int)))) + ((x6) % 4294967296)) % 4294967296))) else (none)) else (none))
def nat_give.f (k : Nat) (l0 : List Int) (l1 : List Int) (a2 : Int) : Option (List Int) := nat_give.l0 k l0 l1 a2 0 (l1.length : Int) 0
def nat_at.f (l0 : List Int) (a1 : Int) : Option (Int) := if a1 < (l0.length : Int) then (if 0 ≤ a1 then (some (IntKind.u64.wrap (rd l0 a1))) else (none)) else (some 0)
def nat_unshift.l0 : Nat → List Int → Int → List Int → List Int → Int → Int → Option (List Int)
  | 0, _, _, _, _, _, _ => none
  | k + 1, x0, x1, x5, x11, x12, x13 => if x13 < x12 then (if 0 ≤ x13 then (if x13 < (x11.length : Int) then (if 0 ≤ x1 then ((nat_at.f x0 (wrap64 (x13 + 1))).bind fun t162 => (if 0 ≤ (wrap64 (32 - x1)) then (if x13 < (x5.length : Int) then (nat_unshift.l0 k x0 x1 (x5.set (x13 : Int).toNat (Go.bits .or .u32 (shr .u32 (rd x11 x13) x1) ((shl .u64 t162 (wrap64 (32 - x1))) % 4294967296))) x11 x12 (wrap64 (x13 + 1))) else (none)) else (none))) else (none)) else (none)) else (none)) else (some x5)
def nat_unshift.f (k : Nat) (l0 : List Int) (a1 : Int) : Option (List Int) := if 0 ≤ (l0.length : Int) then (if ((l0.length : Int) : Int).toNat ≤ 70368744177664 then (nat_unshift.l0 k l0 a1 (List.replicate ((l0.length : Int) : Int).toNat 0) l0 (l0.length : Int) 0) else (none)) else (none)
def nat_long.l0 : Nat → Int → List Int → List Int → List Int → Int → Option (List Int × List Int)
  | 0, _, _, _, _, _ => none
  | k + 1, x6, x7, x8, x9, x10 => if x10 ≥ 0 then ((nat_guess.f k x7 x8 x10).bind fun t187 => ((nat_take.f k x7 x8 x10 t187).bind fun bt188 => (if bt188.1 = true then ((nat_give.f k bt188.2 x8 x10).bind fun t190 => (if 0 ≤ x10 then (if x10 < (x9.length : Int) then (nat_long.l0 k x6 t190 x8 (x9.set (x10 : Int).toNat ((IntKind.u64.wrap (t187 - 1)) % 4294967296)) (wrap64 (x10 - 1))) else (none)) else (none))) else (if 0 ≤ x10 then (if x10 < (x9.length : Int) then (nat_long.l0 k x6 bt188.2 x8 (x9.set (x10 : Int).toNat ((t187) % 4294967296)) (wrap64 (x10 - 1))) else (none)) else (none))))) else ((nat_trim.f k x9).bind fun t178 => ((nat_unshift.f k x7 x6).bind fun t181 => ((nat_trim.f k t181).bind fun t184 => (some (t178, t184)))))
def nat_long.f (k : Nat) (l0 : List Int) (l1 : List Int) : Option (List Int × List Int) := if 0 ≤ (wrap64 ((l1.length : Int) - 1)) then (if (wrap64 ((l1.length : Int) - 1)) < (l1.length : Int) then ((bits_LeadingZeros32.f (rd l1 (wrap64 ((l1.length : Int) - 1)))).bind fun t165 => ((nat_shift.f k l0 t165).bind fun t166 => ((nat_shift.f k l1 t165).bind fun t169 => (if 0 ≤ (l1.length : Int) then (if (l1.length : Int) ≤ (t169.length : Int) then (if 0 ≤ (wrap64 ((wrap64 ((l0.length : Int) - (l1.length : Int))) + 1)) then (if (wrap64 ((wrap64 ((l0.length : Int) - (l1.length : Int))) + 1) : Int).toNat ≤ 70368744177664 then ((some (List.replicate (wrap64 ((wrap64 ((l0.length : Int) - (l1.length : Int))) + 1) : Int).toNat 0 : List Int)).bind fun y175 => (nat_long.l0 k t165 t166 (t169.take ((l1.length : Int) : Int).toNat) y175 (wrap64 ((y175.length : Int) - 1)))) else (none)) else (none)) else (none)) else (none))))) else (none)) else (none)
def nat_split.f (k : Nat) (l0 : List Int) (l1 : List Int) : Option (List Int × List Int) := (nat_order.f k l0 l1).bind fun t193 => (if t193 < 0 then ((api_Nat_uint32.f l0).bind fun t194 => (some (([] : List Int), t194))) else (if (l1.length : Int) = 1 then (if 0 < (l1.length : Int) then ((nat_short.f k l0 (rd l1 0)).bind fun bt198 => ((nat_Of.f k (IntKind.u64.wrap (bt198.2))).bind fun t202 => (some (bt198.1, t202)))) else (none)) else ((nat_long.f k l0 l1).bind fun bt205 => (some (bt205.1, bt205.2)))))
def nat_Div.j0 : Nat → List Int → List Int → Bool → Option (List Int × List Int × Int)
  | 0, _, _, _ => none
  | k + 1, x0, x1, x9 => if x9 = true then (some (([] : List Int), ([] : List Int), 1)) else (if (x1.length : Int) = 0 then (some (([] : List Int), ([] : List Int), 7)) else ((nat_split.f k x0 x1).bind fun bt213 => (some (bt213.1, bt213.2, 0))))
def nat_Div.f (k : Nat) (l0 : List Int) (l1 : List Int) : Option (List Int × List Int × Int) := (nat_Right.f l0).bind fun t211 => (if t211 = true then ((nat_Right.f l1).bind fun t212 => (nat_Div.j0 k l0 l1 (!t212))) else (nat_Div.j0 k l0 l1 true))
mutual
def nat_Gcd.j0 : Nat → List Int → List Int → Bool → Option (List Int × Int)
  | 0, _, _, _ => none
  | k + 1, x0, x1, x15 => if x15 = true then (some (([] : List Int), 1)) else (nat_Gcd.l0 k x0 x1)
def nat_Gcd.l0 : Nat → List Int → List Int → Option (List Int × Int)
  | 0, _, _ => none
  | k + 1, x0, x1 => if (x1.length : Int) > 0 then ((nat_split.f k x0 x1).bind fun bt221 => (nat_Gcd.l0 k x1 bt221.2)) else ((api_Nat_uint32.f x0).bind fun t227 => (some (t227, 0)))
end
def nat_Gcd.f (k : Nat) (l0 : List Int) (l1 : List Int) : Option (List Int × Int) := (nat_Right.f l0).bind fun t219 => (if t219 = true then ((nat_Right.f l1).bind fun t220 => (nat_Gcd.j0 k l0 l1 (!t220))) else (nat_Gcd.j0 k l0 l1 true))
def samphireref02_Same.l0 : Nat → List Int → List Int → Int → Option (Bool)
  | 0, _, _, _ => none
  | k + 1, x0, x1, x5 => if x5 < (x0.length : Int) then (if 0 ≤ x5 then (if x5 < (x1.length : Int) then (if (rd x0 x5) = (rd x1 x5) then (samphireref02_Same.l0 k x0 x1 (wrap64 (x5 + 1))) else (some false)) else (none)) else (none)) else (some true)
def samphireref02_Same.f (k : Nat) (l0 : List Int) (l1 : List Int) : Option (Bool) := if (l0.length : Int) = (l1.length : Int) then (samphireref02_Same.l0 k l0 l1 0) else (some false)
def strings_Trim.f (a0 a1 : ByteArray) : Option ByteArray := if a0.size ≤ 9223372036854775807 ∧ a1.size < 4294967281 ∧ a1.data.toList.all (fun b => decide (b.toNat < 128)) = true then some ⟨(Lib.trimS a0.data.toList a1.data.toList).toArray⟩ else none
def nat_sum.l0 : Nat → List Int → List Int → List Int → Int → Int → Int → Option (List Int)
  | 0, _, _, _, _, _, _ => none
  | k + 1, x0, x1, x5, x6, x16, x17 => if x17 < x16 then ((nat_at.f x0 x17).bind fun t235 => ((nat_at.f x1 x17).bind fun t236 => (if 0 ≤ x17 then (if x17 < (x5.length : Int) then (nat_sum.l0 k x0 x1 (x5.set (x17 : Int).toNat ((IntKind.u64.wrap (x6 + (IntKind.u64.wrap (t235 + t236)))) % 4294967296)) ((IntKind.u64.wrap (x6 + (IntKind.u64.wrap (t235 + t236)))) / 4294967296) x16 (wrap64 (x17 + 1))) else (none)) else (none)))) else ((nat_trim.f k x5).bind fun t238 => (some t238))
def nat_sum.f (k : Nat) (l0 : List Int) (l1 : List Int) : Option (List Int) := if 0 ≤ (wrap64 ((mx (l0.length : Int) (l1.length : Int)) + 1)) then (if (wrap64 ((mx (l0.length : Int) (l1.length : Int)) + 1) : Int).toNat ≤ 70368744177664 then ((some (List.replicate (wrap64 ((mx (l0.length : Int) (l1.length : Int)) + 1) : Int).toNat 0 : List Int)).bind fun y232 => (nat_sum.l0 k l0 l1 y232 0 (y232.length : Int) 0)) else (none)) else (none)
mutual
def nat_times.l0 : Nat → List Int → List Int → List Int → Int → Int → Option (List Int)
  | 0, _, _, _, _, _ => none
  | k + 1, x1, x5, x17, x18, x19 => if x19 < x18 then (if 0 ≤ x19 then (if x19 < (x17.length : Int) then (nat_times.l1 k x1 x5 x19 (rd x17 x19) 0 x17 x18 x19 x1 (x1.length : Int) 0) else (none)) else (none)) else ((nat_trim.f k x5).bind fun t244 => (some t244))
def nat_times.l1 : Nat → List Int → List Int → Int → Int → Int → List Int → Int → Int → List Int → Int → Int → Option (List Int)
  | 0, _, _, _, _, _, _, _, _, _, _, _ => none
  | k + 1, x1, x5, x6, x7, x8, x17, x18, x19, x24, x25, x26 => if x26 < x25 then (if 0 ≤ x26 then (if x26 < (x24.length : Int) then (if 0 ≤ (wrap64 (x6 + x26)) then (if (wrap64 (x6 + x26)) < (x5.length : Int) then (nat_times.l1 k x1 (x5.set ((wrap64 (x6 + x26)) : Int).toNat ((IntKind.u64.wrap (x8 + (IntKind.u64.wrap ((IntKind.u64.wrap ((IntKind.u64.wrap (x7)) * (IntKind.u64.wrap (rd x24 x26)))) + (IntKind.u64.wrap (rd x5 (wrap64 (x6 + x26)))))))) % 4294967296)) x6 x7 ((IntKind.u64.wrap (x8 + (IntKind.u64.wrap ((IntKind.u64.wrap ((IntKind.u64.wrap (x7)) * (IntKind.u64.wrap (rd x24 x26)))) + (IntKind.u64.wrap (rd x5 (wrap64 (x6 + x26)))))))) / 4294967296) x17 x18 x19 x24 x25 (wrap64 (x26 + 1))) else (none)) else (none)) else (none)) else (none)) else (if 0 ≤ (wrap64 (x6 + (x1.length : Int))) then (if (wrap64 (x6 + (x1.length : Int))) < (x5.length : Int) then (nat_times.l0 k x1 (x5.set ((wrap64 (x6 + (x1.length : Int))) : Int).toNat ((x8) % 4294967296)) x17 x18 (wrap64 (x19 + 1))) else (none)) else (none))
end
def nat_times.f (k : Nat) (l0 : List Int) (l1 : List Int) : Option (List Int) := if 0 ≤ (wrap64 ((l0.length : Int) + (l1.length : Int))) then (if (wrap64 ((l0.length : Int) + (l1.length : Int)) : Int).toNat ≤ 70368744177664 then (nat_times.l0 k l1 (List.replicate (wrap64 ((l0.length : Int) + (l1.length : Int)) : Int).toNat 0) l0 (l0.length : Int) 0) else (none)) else (none)
mutual
def nat_Read.j0 : Nat → ByteArray → Bool → Option (List Int × Int)
  | 0, _, _ => none
  | k + 1, x0, x22 => if x22 = true then (some (([] : List Int), 2)) else (nat_Read.l0 k x0 ([] : List Int) (x0.size : Int) 0)
def nat_Read.l0 : Nat → ByteArray → List Int → Int → Int → Option (List Int × Int)
  | 0, _, _, _, _ => none
  | k + 1, x0, x4, x24, x25 => if x25 < x24 then ((nat_Of.f k 10).bind fun t254 => ((nat_times.f k x4 t254).bind fun t257 => (if 0 ≤ x25 then (if x25 < (x0.size : Int) then ((nat_Of.f k (((bt x0 x25) - 48) % 256)).bind fun t260 => ((nat_sum.f k t257 t260).bind fun t263 => (if (t263.length : Int) > 64 then (some (([] : List Int), 6)) else (nat_Read.l0 k x0 t263 x24 (wrap64 (x25 + 1)))))) else (none)) else (none)))) else (some (x4, 0))
end
def nat_Read.f (k : Nat) (a0 : ByteArray) : Option (List Int × Int) := if a0.toList = ([] : List UInt8) then (nat_Read.j0 k a0 true) else (if 0 < (a0.size : Int) then (if (bt a0 0) = 48 then (if (a0.size : Int) > 1 then (nat_Read.j0 k a0 true) else ((strings_Trim.f a0 (⟨#[48, 49, 50, 51, 52, 53, 54, 55, 56, 57]⟩ : ByteArray)).bind fun t252 => (nat_Read.j0 k a0 (t252.toList != ([] : List UInt8))))) else ((strings_Trim.f a0 (⟨#[48, 49, 50, 51, 52, 53, 54, 55, 56, 57]⟩ : ByteArray)).bind fun t253 => (nat_Read.j0 k a0 (t253.toList != ([] : List UInt8))))) else (none))
def digs (a0 : Int) : List Int := [48 + a0 / 10 / 10 / 10 / 10 / 10 / 10 / 10 / 10 % 10, 48 + a0 / 10 / 10 / 10 / 10 / 10 / 10 / 10 % 10, 48 + a0 / 10 / 10 / 10 / 10 / 10 / 10 % 10, 48 + a0 / 10 / 10 / 10 / 10 / 10 % 10, 48 + a0 / 10 / 10 / 10 / 10 % 10, 48 + a0 / 10 / 10 / 10 % 10, 48 + a0 / 10 / 10 % 10, 48 + a0 / 10 % 10, 48 + a0 % 10]
def nat_digits.f (a0 : Int) : Option ByteArray := if 0 ≤ a0 ∧ a0 < 4294967296 then some (strOfNums (digs a0)) else none
def strings_TrimLeft.f (a0 a1 : ByteArray) : Option ByteArray := if a0.size ≤ 9223372036854775807 ∧ a1.size < 4294967281 ∧ a1.data.toList.all (fun b => decide (b.toNat < 128)) = true then some ⟨(Lib.trimLeftS a0.data.toList a1.data.toList).toArray⟩ else none
def nat_Text.l0 : Nat → List Int → ByteArray → Option (ByteArray)
  | 0, _, _ => none
  | k + 1, x0, x3 => if (x0.length : Int) > 0 then ((nat_short.f k x0 1000000000).bind fun bt267 => ((nat_digits.f bt267.2).bind fun t271 => (if t271.size + x3.size ≤ 9223372036854775807 then (nat_Text.l0 k bt267.1 (t271 ++ x3)) else (none)))) else ((strings_TrimLeft.f x3 (⟨#[48]⟩ : ByteArray)).bind fun t272 => (if t272.toList = ([] : List UInt8) then (some (⟨#[48]⟩ : ByteArray)) else (some t272)))
def nat_Text.f (k : Nat) (l0 : List Int) : Option (ByteArray) := (nat_Right.f l0).bind fun t266 => (if t266 = true then (nat_Text.l0 k l0 (⟨#[]⟩ : ByteArray)) else (some (⟨#[]⟩ : ByteArray)))
def nat_kept.f (l0 : List Int) : Option (List Int × Int) := if (l0.length : Int) > 64 then (some (([] : List Int), 6)) else (some (l0, 0))
def nat_Mul.j0 : Nat → List Int → List Int → Bool → Option (List Int × Int)
  | 0, _, _, _ => none
  | k + 1, x0, x1, x13 => if x13 = true then (some (([] : List Int), 1)) else ((nat_times.f k x0 x1).bind fun t275 => ((nat_kept.f t275).bind fun bt278 => (some (bt278.1, bt278.2))))
def nat_Mul.f (k : Nat) (l0 : List Int) (l1 : List Int) : Option (List Int × Int) := (nat_Right.f l0).bind fun t273 => (if t273 = true then ((nat_Right.f l1).bind fun t274 => (nat_Mul.j0 k l0 l1 (!t274))) else (nat_Mul.j0 k l0 l1 true))
def nat_less.l0 : Nat → List Int → List Int → List Int → Int → Int → Int → Option (List Int)
  | 0, _, _, _, _, _, _ => none
  | k + 1, x0, x1, x5, x6, x13, x14 => if x14 < x13 then (if 0 ≤ x14 then (if x14 < (x0.length : Int) then ((nat_at.f x1 x14).bind fun t286 => (if x14 < (x5.length : Int) then (nat_less.l0 k x0 x1 (x5.set (x14 : Int).toNat ((IntKind.u64.wrap ((IntKind.u64.wrap ((IntKind.u64.wrap (rd x0 x14)) - t286)) - x6)) % 4294967296)) ((IntKind.u64.wrap ((IntKind.u64.wrap ((IntKind.u64.wrap (rd x0 x14)) - t286)) - x6)) / 9223372036854775808) x13 (wrap64 (x14 + 1))) else (none))) else (none)) else (none)) else ((nat_trim.f k x5).bind fun t288 => (some t288))
def nat_less.f (k : Nat) (l0 : List Int) (l1 : List Int) : Option (List Int) := if 0 ≤ (l0.length : Int) then (if ((l0.length : Int) : Int).toNat ≤ 70368744177664 then ((some (List.replicate ((l0.length : Int) : Int).toNat 0 : List Int)).bind fun y282 => (nat_less.l0 k l0 l1 y282 0 (y282.length : Int) 0)) else (none)) else (none)
def nat_Sub.f (k : Nat) (l0 : List Int) (l1 : List Int) : Option (List Int × Int) := (nat_Right.f l0).bind fun t291 => (if t291 = true then ((nat_Right.f l1).bind fun t292 => (if t292 = true then ((nat_order.f k l0 l1).bind fun t293 => (if t293 < 0 then (some (([] : List Int), 1)) else ((nat_less.f k l0 l1).bind fun t294 => (some (t294, 0))))) else (some (([] : List Int), 1)))) else (some (([] : List Int), 1)))
def nat_Cmp.f (k : Nat) (l0 : List Int) (l1 : List Int) : Option (Int) := (nat_Right.f l0).bind fun t297 => (if t297 = true then ((nat_Right.f l1).bind fun t298 => (if t298 = true then ((nat_order.f k l0 l1).bind fun t299 => (some t299)) else (some 0))) else (some 0))
def nat_Bits.f (l0 : List Int) : Option (Int) := (nat_Right.f l0).bind fun t300 => (if t300 = true then (if (l0.length : Int) = 0 then (some 0) else (if 0 ≤ (wrap64 ((l0.length : Int) - 1)) then (if (wrap64 ((l0.length : Int) - 1)) < (l0.length : Int) then ((bits_Len32.f (rd l0 (wrap64 ((l0.length : Int) - 1)))).bind fun t302 => (some (wrap64 ((wrap64 (32 * (wrap64 ((l0.length : Int) - 1)))) + t302)))) else (none)) else (none))) else (some 0))
def samphirelaw02_awake.f (k : Nat)  : Option (Bool) := (nat_Read.f k (⟨#[49, 56, 52, 52, 54, 55, 52, 52, 48, 55, 51, 55, 48, 57, 53, 53, 49, 54, 49, 54]⟩ : ByteArray)).bind fun bt303 => ((nat_Of.f k 10).bind fun t307 => ((nat_Div.f k bt303.1 t307).bind fun bt310 => ((nat_Mul.f k bt303.1 bt303.1).bind fun bt317 => ((nat_Of.f k 12).bind fun t321 => ((nat_Of.f k 18).bind fun t324 => ((nat_Gcd.f k t321 t324).bind fun bt327 => ((nat_Of.f k 1).bind fun t331 => ((nat_Sub.f k ([] : List Int) t331).bind fun bt334 => ((nat_Div.f k bt303.1 ([] : List Int)).bind fun bt338 => (if bt303.2 = 0 then (if (bt303.1.length : Int) = 3 then (if 2 < (bt303.1.length : Int) then (if (rd bt303.1 2) = 1 then (if bt310.2.2 = 0 then ((nat_Text.f k bt310.1).bind fun t346 => (if t346.toList = ([49, 56, 52, 52, 54, 55, 52, 52, 48, 55, 51, 55, 48, 57, 53, 53, 49, 54, 49] : List UInt8) then ((nat_Of.f k 6).bind fun t347 => ((samphireref02_Same.f k bt310.2.1 t347).bind fun t350 => (if t350 = true then (if bt317.2 = 0 then ((nat_Bits.f bt317.1).bind fun t351 => (if t351 = 129 then (if bt327.2 = 0 then ((nat_Text.f k bt327.1).bind fun t352 => (if t352.toList = ([54] : List UInt8) then (if bt334.2 = 1 then (if bt338.2.2 = 7 then ((nat_Cmp.f k bt303.1 bt317.1).bind fun t353 => (some (t353 == (-1)))) else (none)) else (none)) else (none))) else (none)) else (none))) else (none)) else (none)))) else (none))) else (none)) else (none)) else (none)) else (none)) else (none)))))))))))
def samphireref02_Right.f (l0 : List Int) : Option (Bool) := if (l0.length : Int) > 64 then (some false) else (if (l0.length : Int) = 0 then (some true) else (if 0 ≤ (wrap64 ((l0.length : Int) - 1)) then (if (wrap64 ((l0.length : Int) - 1)) < (l0.length : Int) then (some (decide ((rd l0 (wrap64 ((l0.length : Int) - 1))) > 0))) else (none)) else (none)))
def samphirelaw02_told.f (k : Nat) (l0 : List Int) (a1 : Int) (a2 : Bool) (l3 : List Int) : Option (Bool) := if a2 = true then (if (l3.length : Int) > 64 then (if (l0.length : Int) = 0 then (some (a1 == 6)) else (some false)) else ((samphireref02_Same.f k l0 l3).bind fun t355 => (if t355 = true then (some (a1 == 0)) else (some false)))) else (if (l0.length : Int) = 0 then (some (a1 == 1)) else (some false))
def samphireref02_Cmp.l0 : Nat → List Int → List Int → Int → Option (Int)
  | 0, _, _, _ => none
  | k + 1, x0, x1, x5 => if x5 ≥ 0 then (if 0 ≤ x5 then (if x5 < (x0.length : Int) then (if x5 < (x1.length : Int) then (if (rd x0 x5) = (rd x1 x5) then (samphireref02_Cmp.l0 k x0 x1 (wrap64 (x5 - 1))) else (if (rd x0 x5) < (rd x1 x5) then (some (-1)) else (some 1))) else (none)) else (none)) else (none)) else (some 0)
def samphireref02_Cmp.f (k : Nat) (l0 : List Int) (l1 : List Int) : Option (Int) := if (l0.length : Int) = (l1.length : Int) then (samphireref02_Cmp.l0 k l0 l1 (wrap64 ((l0.length : Int) - 1))) else (if (l0.length : Int) < (l1.length : Int) then (some (-1)) else (some 1))
def samphireref02_Half.l0 : Nat → List Int → Int → List Int → Int → Option (List Int)
  | 0, _, _, _, _ => none
  | k + 1, x0, x1, x5, x6 => if x6 < x1 then (if (wrap64 (Int.tdiv x6 2)) < (x0.length : Int) then (if 0 ≤ (wrap64 (Int.tdiv x6 2)) then (if (Int.tmod x6 2) = 0 then (if x5.length < 17592186044416 then (samphireref02_Half.l0 k x0 x1 (x5 ++ [Int.tmod (IntKind.u64.wrap (rd x0 (wrap64 (Int.tdiv x6 2)))) 65536]) (wrap64 (x6 + 1))) else (none)) else (if x5.length < 17592186044416 then (samphireref02_Half.l0 k x0 x1 (x5 ++ [IntKind.u64.wrap (Int.tdiv (IntKind.u64.wrap (rd x0 (wrap64 (Int.tdiv x6 2)))) 65536)]) (wrap64 (x6 + 1))) else (none))) else (none)) else (if (Int.tmod x6 2) = 0 then (if x5.length < 17592186044416 then (samphireref02_Half.l0 k x0 x1 (x5 ++ [0]) (wrap64 (x6 + 1))) else (none)) else (if x5.length < 17592186044416 then (samphireref02_Half.l0 k x0 x1 (x5 ++ [0]) (wrap64 (x6 + 1))) else (none)))) else (some x5)
def samphireref02_Half.f (k : Nat) (l0 : List Int) (a1 : Int) : Option (List Int) := samphireref02_Half.l0 k l0 a1 ([] : List Int) 0
mutual
def samphireref02_Whole.l0 : Nat → List Int → List Int → Int → Option (List Int)
  | 0, _, _, _ => none
  | k + 1, x0, x3, x4 => if x4 < (x0.length : Int) then (if 0 ≤ x4 then (if (wrap64 (x4 + 1)) < (x0.length : Int) then (if 0 ≤ (wrap64 (x4 + 1)) then (if x3.length < 35184372088832 then (samphireref02_Whole.l0 k x0 (x3 ++ [(IntKind.u64.wrap ((rd x0 x4) + (IntKind.u64.wrap (65536 * (rd x0 (wrap64 (x4 + 1))))))) % 4294967296]) (wrap64 (x4 + 2))) else (none)) else (none)) else (if x3.length < 35184372088832 then (samphireref02_Whole.l0 k x0 (x3 ++ [(rd x0 x4) % 4294967296]) (wrap64 (x4 + 2))) else (none))) else (none)) else (samphireref02_Whole.l1 k x3)
def samphireref02_Whole.l1 : Nat → List Int → Option (List Int)
  | 0, _ => none
  | k + 1, x3 => if (x3.length : Int) > 0 then (if 0 ≤ (wrap64 ((x3.length : Int) - 1)) then (if (wrap64 ((x3.length : Int) - 1)) < (x3.length : Int) then (if (rd x3 (wrap64 ((x3.length : Int) - 1))) = 0 then (if (wrap64 ((x3.length : Int) - 1)) ≤ (x3.length : Int) then (samphireref02_Whole.l1 k (x3.take ((wrap64 ((x3.length : Int) - 1)) : Int).toNat)) else (none)) else (some x3)) else (none)) else (none)) else (some x3)
end
def samphireref02_Whole.f (k : Nat) (l0 : List Int) : Option (List Int) := samphireref02_Whole.l0 k l0 ([] : List Int) 0
def samphireref02_Sub.l0 : Nat → Int → List Int → List Int → Int → Int → Option (List Int)
  | 0, _, _, _, _, _ => none
  | k + 1, x5, x6, x7, x8, x9 => if x9 < x5 then (if 0 ≤ x9 then (if x9 < (x6.length : Int) then (if x9 < (x7.length : Int) then (samphireref02_Sub.l0 k x5 (x6.set (x9 : Int).toNat (Int.tmod (IntKind.u64.wrap ((IntKind.u64.wrap ((IntKind.u64.wrap (65536 + (rd x6 x9))) - (rd x7 x9))) - x8)) 65536)) x7 (IntKind.u64.wrap (1 - (IntKind.u64.wrap (Int.tdiv (IntKind.u64.wrap ((IntKind.u64.wrap ((IntKind.u64.wrap (65536 + (rd x6 x9))) - (rd x7 x9))) - x8)) 65536)))) (wrap64 (x9 + 1))) else (none)) else (none)) else (none)) else ((samphireref02_Whole.f k x6).bind fun t394 => (some t394))
def samphireref02_Sub.f (k : Nat) (l0 : List Int) (l1 : List Int) : Option (List Int) := (samphireref02_Half.f k l0 (wrap64 (2 * (l0.length : Int)))).bind fun t385 => ((samphireref02_Half.f k l1 (wrap64 (2 * (l0.length : Int)))).bind fun t388 => (samphireref02_Sub.l0 k (wrap64 (2 * (l0.length : Int))) t385 t388 0 0))
def samphireref02_even.f (l0 : List Int) : Option (Bool) := if (l0.length : Int) = 0 then (some true) else (if 0 < (l0.length : Int) then (some ((Int.tmod (rd l0 0) 2) == 0)) else (none))
mutual
def samphireref02_half.l0 : Nat → List Int → List Int → Int → Option (List Int)
  | 0, _, _, _ => none
  | k + 1, x0, x3, x4 => if x4 < (x0.length : Int) then (if 0 ≤ x4 then (if (wrap64 (x4 + 1)) < (x0.length : Int) then (if 0 ≤ (wrap64 (x4 + 1)) then (if x3.length < 35184372088832 then (samphireref02_half.l0 k x0 (x3 ++ [Go.bits .or .u32 ((rd x0 x4) / 2) (((rd x0 (wrap64 (x4 + 1))) * 2147483648) % 4294967296)]) (wrap64 (x4 + 1))) else (none)) else (none)) else (if x3.length < 35184372088832 then (samphireref02_half.l0 k x0 (x3 ++ [(rd x0 x4) / 2]) (wrap64 (x4 + 1))) else (none))) else (none)) else (samphireref02_half.l1 k x3)
def samphireref02_half.l1 : Nat → List Int → Option (List Int)
  | 0, _ => none
  | k + 1, x3 => if (x3.length : Int) > 0 then (if 0 ≤ (wrap64 ((x3.length : Int) - 1)) then (if (wrap64 ((x3.length : Int) - 1)) < (x3.length : Int) then (if (rd x3 (wrap64 ((x3.length : Int) - 1))) = 0 then (if (wrap64 ((x3.length : Int) - 1)) ≤ (x3.length : Int) then (samphireref02_half.l1 k (x3.take ((wrap64 ((x3.length : Int) - 1)) : Int).toNat)) else (none)) else (some x3)) else (none)) else (none)) else (some x3)
end
def samphireref02_half.f (k : Nat) (l0 : List Int) : Option (List Int) := samphireref02_half.l0 k l0 ([] : List Int) 0
def samphireref02_twice.l0 : Nat → List Int → List Int → Int → Int → Option (List Int)
  | 0, _, _, _, _ => none
  | k + 1, x0, x5, x6, x7 => if x7 < (x0.length : Int) then (if 0 ≤ x7 then (if x5.length < 35184372088832 then (samphireref02_twice.l0 k x0 (x5 ++ [Go.bits .or .u32 (((rd x0 x7) * 2) % 4294967296) x6]) ((rd x0 x7) / 2147483648) (wrap64 (x7 + 1))) else (none)) else (none)) else (if x6 > 0 then (if x5.length < 35184372088832 then (some (x5 ++ [x6])) else (none)) else (some x5))
def samphireref02_twice.f (k : Nat) (l0 : List Int) (a1 : Int) : Option (List Int) := samphireref02_twice.l0 k l0 ([] : List Int) a1 0
mutual
def samphireref02_Gcd.l0 : Nat → List Int → List Int → Int → Option (List Int)
  | 0, _, _, _ => none
  | k + 1, x0, x1, x5 => (samphireref02_even.f x0).bind fun t418 => (if t418 = true then ((samphireref02_even.f x1).bind fun t419 => (samphireref02_Gcd.j1 k x0 x1 x5 t419)) else (samphireref02_Gcd.j1 k x0 x1 x5 false))
def samphireref02_Gcd.j1 : Nat → List Int → List Int → Int → Bool → Option (List Int)
  | 0, _, _, _, _ => none
  | k + 1, x0, x1, x5, x19 => if x19 = true then ((samphireref02_half.f k x0).bind fun t420 => ((samphireref02_half.f k x1).bind fun t423 => (samphireref02_Gcd.l0 k t420 t423 (wrap64 (x5 + 1))))) else (samphireref02_Gcd.l1 k x0 x1 x5)
def samphireref02_Gcd.l1 : Nat → List Int → List Int → Int → Option (List Int)
  | 0, _, _, _ => none
  | k + 1, x0, x1, x5 => if (x0.length : Int) > 0 then (samphireref02_Gcd.l2 k x0 x1 x5) else (samphireref02_Gcd.l4 k x1 x5)
def samphireref02_Gcd.j4 : Nat → List Int → List Int → Int → Option (List Int)
  | 0, _, _, _ => none
  | k + 1, x0, x1, x5 => samphireref02_Gcd.l3 k x0 x1 x5
def samphireref02_Gcd.l3 : Nat → List Int → List Int → Int → Option (List Int)
  | 0, _, _, _ => none
  | k + 1, x0, x1, x5 => (samphireref02_even.f x1).bind fun t430 => (if t430 = true then ((samphireref02_half.f k x1).bind fun t431 => (samphireref02_Gcd.l3 k x0 t431 x5)) else ((samphireref02_Cmp.f k x0 x1).bind fun t434 => (if t434 < 0 then ((samphireref02_Sub.f k x1 x0).bind fun t435 => (samphireref02_Gcd.l1 k t435 x0 x5)) else ((samphireref02_Sub.f k x0 x1).bind fun t438 => (samphireref02_Gcd.l1 k t438 x1 x5)))))
def samphireref02_Gcd.l2 : Nat → List Int → List Int → Int → Option (List Int)
  | 0, _, _, _ => none
  | k + 1, x0, x1, x5 => (samphireref02_even.f x0).bind fun t426 => (if t426 = true then (if (x0.length : Int) > 0 then ((samphireref02_half.f k x0).bind fun t427 => (samphireref02_Gcd.l2 k t427 x1 x5)) else (samphireref02_Gcd.j4 k x0 x1 x5)) else (samphireref02_Gcd.j4 k x0 x1 x5))
def samphireref02_Gcd.l4 : Nat → List Int → Int → Option (List Int)
  | 0, _, _ => none
  | k + 1, x1, x5 => if x5 > 0 then ((samphireref02_twice.f k x1 0).bind fun t441 => (samphireref02_Gcd.l4 k t441 (wrap64 (x5 - 1)))) else (some x1)
end
def samphireref02_Gcd.f (k : Nat) (l0 : List Int) (l1 : List Int) : Option (List Int) := if (l0.length : Int) = 0 then (some l1) else (if (l1.length : Int) = 0 then (some l0) else (samphireref02_Gcd.l0 k l0 l1 0))
mutual
def samphireref02_Bits.l0 : Nat → List Int → Int → Int → Option (Int)
  | 0, _, _, _ => none
  | k + 1, x0, x3, x4 => if x4 < (x0.length : Int) then (samphireref02_Bits.l1 k x0 x3 x4 0) else (some x3)
def samphireref02_Bits.l1 : Nat → List Int → Int → Int → Int → Option (Int)
  | 0, _, _, _, _ => none
  | k + 1, x0, x3, x4, x5 => if x5 < 32 then (if 0 ≤ x4 then (if x4 < (x0.length : Int) then (if 0 ≤ (IntKind.u64.wrap (x5)) then (if (Int.tmod (shr .u32 (rd x0 x4) (IntKind.u64.wrap (x5))) 2) = 1 then (samphireref02_Bits.l1 k x0 (wrap64 ((wrap64 ((wrap64 (32 * x4)) + x5)) + 1)) x4 (wrap64 (x5 + 1))) else (samphireref02_Bits.l1 k x0 x3 x4 (wrap64 (x5 + 1)))) else (none)) else (none)) else (none)) else (samphireref02_Bits.l0 k x0 x3 (wrap64 (x4 + 1)))
end
def samphireref02_Bits.f (k : Nat) (l0 : List Int) : Option (Int) := samphireref02_Bits.l0 k l0 0 0
def samphireref02_Div.l0 : Nat → List Int → List Int → List Int → List Int → Int → Option (List Int × List Int)
  | 0, _, _, _, _, _ => none
  | k + 1, x0, x1, x6, x7, x8 => if x8 ≥ 0 then (if 0 ≤ (wrap64 (Int.tdiv x8 32)) then (if (wrap64 (Int.tdiv x8 32)) < (x0.length : Int) then (if 0 ≤ (IntKind.u64.wrap (Int.tmod x8 32)) then ((samphireref02_twice.f k x7 (Int.tmod (shr .u32 (rd x0 (wrap64 (Int.tdiv x8 32))) (IntKind.u64.wrap (Int.tmod x8 32))) 2)).bind fun t447 => ((samphireref02_Cmp.f k t447 x1).bind fun t450 => (if t450 ≥ 0 then ((samphireref02_Sub.f k t447 x1).bind fun t451 => ((samphireref02_twice.f k x6 1).bind fun t454 => (samphireref02_Div.l0 k x0 x1 t454 t451 (wrap64 (x8 - 1))))) else ((samphireref02_twice.f k x6 0).bind fun t457 => (samphireref02_Div.l0 k x0 x1 t457 t447 (wrap64 (x8 - 1))))))) else (none)) else (none)) else (none)) else (some (x6, x7))
def samphireref02_Div.f (k : Nat) (l0 : List Int) (l1 : List Int) : Option (List Int × List Int) := (samphireref02_Bits.f k l0).bind fun t445 => (samphireref02_Div.l0 k l0 l1 ([] : List Int) ([] : List Int) (wrap64 (t445 - 1)))
mutual
def samphirelaw02_NatDivides.j0 : Nat → List Int → List Int → Bool → Option (Bool)
  | 0, _, _, _ => none
  | k + 1, x0, x1, x19 => if x19 = true then ((samphirelaw02_awake.f k).bind fun t462 => (some t462)) else ((nat_Div.f k x0 x1).bind fun bt463 => ((nat_Gcd.f k x0 x1).bind fun bt470 => ((samphireref02_Right.f x0).bind fun t474 => (if t474 = true then ((samphireref02_Right.f x1).bind fun t475 => (samphirelaw02_NatDivides.j1 k x0 x1 bt463.1 bt463.2.1 bt463.2.2 bt470.1 bt470.2 (!t475))) else (samphirelaw02_NatDivides.j1 k x0 x1 bt463.1 bt463.2.1 bt463.2.2 bt470.1 bt470.2 true)))))
def samphirelaw02_NatDivides.j1 : Nat → List Int → List Int → List Int → List Int → Int → List Int → Int → Bool → Option (Bool)
  | 0, _, _, _, _, _, _, _, _ => none
  | k + 1, x0, x1, x5, x6, x7, x8, x9, x41 => if x41 = true then (if (wrap64 ((x5.length : Int) + (x6.length : Int))) = 0 then (if x7 = 1 then ((samphirelaw02_told.f k x8 x9 false ([] : List Int)).bind fun t476 => (if t476 = true then ((samphirelaw02_awake.f k).bind fun t477 => (some t477)) else (none))) else (none)) else (none)) else ((samphireref02_Gcd.f k x0 x1).bind fun t478 => ((samphirelaw02_told.f k x8 x9 true t478).bind fun t481 => (if t481 = true then (if (x1.length : Int) = 0 then (if (wrap64 ((x5.length : Int) + (x6.length : Int))) = 0 then (if x7 = 7 then ((samphirelaw02_awake.f k).bind fun t482 => (some t482)) else (none)) else (none)) else ((samphireref02_Div.f k x0 x1).bind fun bt483 => ((samphireref02_Same.f k x5 bt483.1).bind fun t489 => (if t489 = true then ((samphireref02_Same.f k x6 bt483.2).bind fun t490 => (if t490 = true then (if x7 = 0 then ((samphirelaw02_awake.f k).bind fun t491 => (some t491)) else (none)) else (none))) else (none))))) else (none))))
end
def samphirelaw02_NatDivides.f (k : Nat) (l0 : List Int) (l1 : List Int) : Option (Bool) := (samphireref02_Small.f l0).bind fun t460 => (if t460 = true then ((samphireref02_Small.f l1).bind fun t461 => (samphirelaw02_NatDivides.j0 k l0 l1 (!t461))) else (samphirelaw02_NatDivides.j0 k l0 l1 true))
def samphirelaw02_NatDivides.Pure : Prop := ∀ (l0 : List Int) (l1 : List Int), l0.length ≤ maxLen → l0.length * 4 ≤ 140737488351232 → (∀ x ∈ l0, (Lit.int .u32 x).wf = true) → l1.length ≤ maxLen → l1.length * 4 ≤ 140737488351232 → (∀ x ∈ l1, (Lit.int .u32 x).wf = true) → ∃ k, samphirelaw02_NatDivides.f k l0 l1 = some true
def samphirelaw02_NatCommon.j0 : Nat → List Int → List Int → Bool → Option (Bool)
  | 0, _, _, _ => none
  | k + 1, x0, x1, x42 => if x42 = true then ((samphirelaw02_awake.f k).bind fun t494 => (some t494)) else ((nat_Gcd.f k x0 x1).bind fun bt495 => ((nat_Div.f k x0 bt495.1).bind fun bt499 => ((nat_Div.f k x1 bt495.1).bind fun bt506 => ((nat_Gcd.f k bt499.1 bt506.1).bind fun bt513 => ((nat_Gcd.f k x1 x0).bind fun bt517 => (if bt495.2 = 0 then (if bt499.2.2 = 0 then (if bt506.2.2 = 0 then (if bt513.2 = 0 then (if bt517.2 = 0 then (if (wrap64 ((bt499.2.1.length : Int) + (bt506.2.1.length : Int))) = 0 then ((samphireref02_Same.f k bt513.1 (([1] : List Int))).bind fun t524 => (if t524 = true then ((samphireref02_Same.f k bt517.1 bt495.1).bind fun t525 => (if t525 = true then ((samphirelaw02_awake.f k).bind fun t526 => (some t526)) else (none))) else (none))) else (none)) else (none)) else (none)) else (none)) else (none)) else (none)))))))
def samphirelaw02_NatCommon.f (k : Nat) (l0 : List Int) (l1 : List Int) : Option (Bool) := if (l0.length : Int) > 20 then (samphirelaw02_NatCommon.j0 k l0 l1 true) else (if (l1.length : Int) > 20 then (samphirelaw02_NatCommon.j0 k l0 l1 true) else ((nat_Right.f l0).bind fun t492 => (if t492 = true then ((nat_Right.f l1).bind fun t493 => (if t493 = true then (samphirelaw02_NatCommon.j0 k l0 l1 ((wrap64 ((l0.length : Int) + (l1.length : Int))) == 0)) else (samphirelaw02_NatCommon.j0 k l0 l1 true))) else (samphirelaw02_NatCommon.j0 k l0 l1 true))))
def samphirelaw02_NatCommon.Pure : Prop := ∀ (l0 : List Int) (l1 : List Int), l0.length ≤ maxLen → l0.length * 4 ≤ 140737488351232 → (∀ x ∈ l0, (Lit.int .u32 x).wf = true) → l1.length ≤ maxLen → l1.length * 4 ≤ 140737488351232 → (∀ x ∈ l1, (Lit.int .u32 x).wf = true) → ∃ k, samphirelaw02_NatCommon.f k l0 l1 = some true
mutual
def samphireref02_Text.l0 : Nat → List Int → ByteArray → Option (ByteArray)
  | 0, _, _ => none
  | k + 1, x0, x3 => (samphireref02_Half.f k x0 (wrap64 (2 * (x0.length : Int)))).bind fun t527 => (samphireref02_Text.l1 k x3 0 t527 (wrap64 ((t527.length : Int) - 1)))
def samphireref02_Text.l1 : Nat → ByteArray → Int → List Int → Int → Option (ByteArray)
  | 0, _, _, _, _ => none
  | k + 1, x3, x5, x6, x7 => if x7 ≥ 0 then (if 0 ≤ x7 then (if x7 < (x6.length : Int) then (samphireref02_Text.l1 k x3 (Int.tmod (IntKind.u64.wrap ((IntKind.u64.wrap (65536 * x5)) + (rd x6 x7))) 10) (x6.set (x7 : Int).toNat (IntKind.u64.wrap (Int.tdiv (IntKind.u64.wrap ((IntKind.u64.wrap (65536 * x5)) + (rd x6 x7))) 10))) (wrap64 (x7 - 1))) else (none)) else (none)) else ((samphireref02_Whole.f k x6).bind fun t532 => ((some (([(IntKind.u64.wrap (48 + x5)) % 256] : List Int) : List Int)).bind fun y535 => (if (strOfNums y535).size + x3.size ≤ 9223372036854775807 then (if (t532.length : Int) = 0 then (some ((strOfNums y535) ++ x3)) else (samphireref02_Text.l0 k t532 ((strOfNums y535) ++ x3))) else (none))))
end
def samphireref02_Text.f (k : Nat) (l0 : List Int) : Option (ByteArray) := samphireref02_Text.l0 k l0 (⟨#[]⟩ : ByteArray)
def samphireref02_Add.l0 : Nat → Int → List Int → List Int → Int → Int → Option (List Int)
  | 0, _, _, _, _, _ => none
  | k + 1, x5, x6, x7, x8, x9 => if x9 < x5 then (if 0 ≤ x9 then (if x9 < (x6.length : Int) then (if x9 < (x7.length : Int) then (samphireref02_Add.l0 k x5 (x6.set (x9 : Int).toNat (Int.tmod (IntKind.u64.wrap ((IntKind.u64.wrap ((rd x6 x9) + (rd x7 x9))) + x8)) 65536)) x7 (IntKind.u64.wrap (Int.tdiv (IntKind.u64.wrap ((IntKind.u64.wrap ((rd x6 x9) + (rd x7 x9))) + x8)) 65536)) (wrap64 (x9 + 1))) else (none)) else (none)) else (none)) else ((samphireref02_Whole.f k x6).bind fun t547 => (some t547))
def samphireref02_Add.f (k : Nat) (l0 : List Int) (l1 : List Int) : Option (List Int) := (samphireref02_Half.f k l0 (wrap64 ((wrap64 (2 * (mx (l0.length : Int) (l1.length : Int)))) + 2))).bind fun t538 => ((samphireref02_Half.f k l1 (wrap64 ((wrap64 (2 * (mx (l0.length : Int) (l1.length : Int)))) + 2))).bind fun t541 => (samphireref02_Add.l0 k (wrap64 ((wrap64 (2 * (mx (l0.length : Int) (l1.length : Int)))) + 2)) t538 t541 0 0))
mutual
def samphireref02_Mul.l0 : Nat → Int → Int → List Int → List Int → List Int → Int → Option (List Int)
  | 0, _, _, _, _, _, _ => none
  | k + 1, x5, x6, x7, x8, x9, x10 => if x10 < x5 then (samphireref02_Mul.l1 k x5 x6 x7 x8 x9 x10 0 0) else ((samphireref02_Whole.f k x9).bind fun t559 => (some t559))
def samphireref02_Mul.l1 : Nat → Int → Int → List Int → List Int → List Int → Int → Int → Int → Option (List Int)
  | 0, _, _, _, _, _, _, _, _ => none
  | k + 1, x5, x6, x7, x8, x9, x10, x11, x12 => if x12 < x6 then (if 0 ≤ (wrap64 (x10 + x12)) then (if (wrap64 (x10 + x12)) < (x9.length : Int) then (if 0 ≤ x10 then (if x10 < (x7.length : Int) then (if 0 ≤ x12 then (if x12 < (x8.length : Int) then (samphireref02_Mul.l1 k x5 x6 x7 x8 (x9.set ((wrap64 (x10 + x12)) : Int).toNat (Int.tmod (IntKind.u64.wrap ((IntKind.u64.wrap ((rd x9 (wrap64 (x10 + x12))) + (IntKind.u64.wrap ((rd x7 x10) * (rd x8 x12))))) + x11)) 65536)) x10 (IntKind.u64.wrap (Int.tdiv (IntKind.u64.wrap ((IntKind.u64.wrap ((rd x9 (wrap64 (x10 + x12))) + (IntKind.u64.wrap ((rd x7 x10) * (rd x8 x12))))) + x11)) 65536)) (wrap64 (x12 + 1))) else (none)) else (none)) else (none)) else (none)) else (none)) else (none)) else (if 0 ≤ (wrap64 (x10 + x6)) then (if (wrap64 (x10 + x6)) < (x9.length : Int) then (samphireref02_Mul.l0 k x5 x6 x7 x8 (x9.set ((wrap64 (x10 + x6)) : Int).toNat (IntKind.u64.wrap ((rd x9 (wrap64 (x10 + x6))) + x11))) (wrap64 (x10 + 1))) else (none)) else (none))
end
def samphireref02_Mul.f (k : Nat) (l0 : List Int) (l1 : List Int) : Option (List Int) := (samphireref02_Half.f k l0 (wrap64 (2 * (l0.length : Int)))).bind fun t550 => ((samphireref02_Half.f k l1 (wrap64 (2 * (l1.length : Int)))).bind fun t553 => (if 0 ≤ (wrap64 ((wrap64 ((wrap64 (2 * (l0.length : Int))) + (wrap64 (2 * (l1.length : Int))))) + 2)) then (if (wrap64 ((wrap64 ((wrap64 (2 * (l0.length : Int))) + (wrap64 (2 * (l1.length : Int))))) + 2) : Int).toNat ≤ 35184372088832 then (samphireref02_Mul.l0 k (wrap64 (2 * (l0.length : Int))) (wrap64 (2 * (l1.length : Int))) t550 t553 (List.replicate (wrap64 ((wrap64 ((wrap64 (2 * (l0.length : Int))) + (wrap64 (2 * (l1.length : Int))))) + 2) : Int).toNat 0) 0) else (none)) else (none)))
mutual
def samphireref02_Read.j0 : Nat → ByteArray → Bool → Option (List Int × Int)
  | 0, _, _ => none
  | k + 1, x0, x19 => if x19 = true then (some (([] : List Int), 2)) else (samphireref02_Read.l0 k x0 0)
def samphireref02_Read.l0 : Nat → ByteArray → Int → Option (List Int × Int)
  | 0, _, _ => none
  | k + 1, x0, x4 => if x4 < (x0.size : Int) then (if 0 ≤ x4 then (if (bt x0 x4) < 48 then (some (([] : List Int), 2)) else (if (bt x0 x4) > 57 then (some (([] : List Int), 2)) else (samphireref02_Read.l0 k x0 (wrap64 (x4 + 1))))) else (none)) else (if (x0.size : Int) > 700 then (some (([] : List Int), 6)) else (samphireref02_Read.l1 k x0 ([] : List Int) 0))
def samphireref02_Read.l1 : Nat → ByteArray → List Int → Int → Option (List Int × Int)
  | 0, _, _, _ => none
  | k + 1, x0, x5, x6 => if x6 < (x0.size : Int) then ((samphireref02_Mul.f k x5 (([10] : List Int))).bind fun t571 => (if 0 ≤ x6 then (if (bt x0 x6) = 48 then (samphireref02_Read.l1 k x0 t571 (wrap64 (x6 + 1))) else ((samphireref02_Add.f k t571 (([((bt x0 x6) - 48) % 256] : List Int))).bind fun t577 => (samphireref02_Read.l1 k x0 t577 (wrap64 (x6 + 1))))) else (none))) else (if (x5.length : Int) > 64 then (some (([] : List Int), 6)) else (some (x5, 0)))
end
def samphireref02_Read.f (k : Nat) (a0 : ByteArray) : Option (List Int × Int) := if (a0.size : Int) = 0 then (samphireref02_Read.j0 k a0 true) else (if 0 < (a0.size : Int) then (if (bt a0 0) = 48 then (samphireref02_Read.j0 k a0 (decide ((a0.size : Int) > 1))) else (samphireref02_Read.j0 k a0 false)) else (none))
def samphireref02_Of.f (k : Nat) (a0 : Int) : Option (List Int) := (samphireref02_Whole.f k (([Int.tmod a0 65536, Int.tmod (IntKind.u64.wrap (Int.tdiv a0 65536)) 65536, Int.tmod (IntKind.u64.wrap (Int.tdiv a0 4294967296)) 65536, IntKind.u64.wrap (Int.tdiv a0 281474976710656)] : List Int))).bind fun t583 => (some t583)
def nat_From.f (k : Nat) (a0_0 : Int) (a0_1 : Int) : Option (List Int) := (nat_trim.f k (([(a0_1) % 4294967296, (a0_1 / 4294967296) % 4294967296, (a0_0) % 4294967296, (a0_0 / 4294967296) % 4294967296] : List Int))).bind fun t590 => (some t590)
mutual
def samphirelaw02_NatTexts.j0 : Nat → List Int → ByteArray → Bool → Int → Int → Option (Bool)
  | 0, _, _, _, _, _ => none
  | k + 1, x0, x1, x20, x594000, x594001 => if x20 = true then ((samphirelaw02_awake.f k).bind fun t595 => (some t595)) else ((samphireref02_Right.f x0).bind fun t596 => (if t596 = true then ((samphireref02_Text.f k x0).bind fun t597 => (samphirelaw02_NatTexts.j1 k x0 x1 t597 x594000 x594001)) else (samphirelaw02_NatTexts.j1 k x0 x1 (⟨#[]⟩ : ByteArray) x594000 x594001)))
def samphirelaw02_NatTexts.j1 : Nat → List Int → ByteArray → ByteArray → Int → Int → Option (Bool)
  | 0, _, _, _, _, _ => none
  | k + 1, x0, x1, x7, x594000, x594001 => (nat_Read.f k x1).bind fun bt598 => ((samphireref02_Read.f k x1).bind fun bt602 => ((samphireref02_Of.f k x594001).bind fun t606 => ((samphireref02_Of.f k x594000).bind fun t609 => ((samphireref02_Mul.f k t609 (([0, 0, 1] : List Int))).bind fun t615 => ((samphireref02_Add.f k t606 t615).bind fun t618 => ((nat_Text.f k x0).bind fun t621 => (if t621.toList = x7.toList then ((samphireref02_Same.f k bt598.1 bt602.1).bind fun t622 => (if t622 = true then (if bt598.2 = bt602.2 then ((nat_Of.f k x594001).bind fun t623 => ((samphireref02_Of.f k x594001).bind fun t626 => ((samphireref02_Same.f k t623 t626).bind fun t629 => (if t629 = true then ((nat_From.f k x594000 x594001).bind fun t630 => ((samphireref02_Same.f k t630 t618).bind fun t633 => (if t633 = true then ((samphirelaw02_awake.f k).bind fun t634 => (some t634)) else (none)))) else (none))))) else (none)) else (none))) else (none))))))))
end
def samphirelaw02_NatTexts.f (k : Nat) (l0 : List Int) (a1 : ByteArray) (a2_0 : Int) (a2_1 : Int) : Option (Bool) := (samphireref02_Small.f l0).bind fun t594 => (if t594 = true then (samphirelaw02_NatTexts.j0 k l0 a1 (decide ((a1.size : Int) > 800)) a2_0 a2_1) else (samphirelaw02_NatTexts.j0 k l0 a1 true a2_0 a2_1))
def nat_Add.j0 : Nat → List Int → List Int → Bool → Option (List Int × Int)
  | 0, _, _, _ => none
  | k + 1, x0, x1, x13 => if x13 = true then (some (([] : List Int), 1)) else ((nat_sum.f k x0 x1).bind fun t637 => ((nat_kept.f t637).bind fun bt640 => (some (bt640.1, bt640.2))))
def nat_Add.f (k : Nat) (l0 : List Int) (l1 : List Int) : Option (List Int × Int) := (nat_Right.f l0).bind fun t635 => (if t635 = true then ((nat_Right.f l1).bind fun t636 => (nat_Add.j0 k l0 l1 (!t636))) else (nat_Add.j0 k l0 l1 true))
mutual
def samphirelaw02_NatSums.j0 : Nat → List Int → List Int → Bool → Option (Bool)
  | 0, _, _, _ => none
  | k + 1, x0, x1, x20 => if x20 = true then ((samphirelaw02_awake.f k).bind fun t646 => (some t646)) else ((samphireref02_Right.f x0).bind fun t647 => (if t647 = true then ((samphireref02_Right.f x1).bind fun t648 => (samphirelaw02_NatSums.j1 k x0 x1 t648)) else (samphirelaw02_NatSums.j1 k x0 x1 false)))
def samphirelaw02_NatSums.j1 : Nat → List Int → List Int → Bool → Option (Bool)
  | 0, _, _, _ => none
  | k + 1, x0, x1, x5 => (nat_Right.f x0).bind fun t649 => ((samphireref02_Right.f x0).bind fun t650 => (if (t649 != t650) = true then (none) else ((nat_Add.f k x0 x1).bind fun bt651 => ((nat_Mul.f k x0 x1).bind fun bt655 => ((nat_Sub.f k x0 x1).bind fun bt659 => (if x5 = true then ((samphireref02_Cmp.f k x0 x1).bind fun t668 => (if t668 < 0 then (if (bt659.1.length : Int) = 0 then (if bt659.2 = 1 then (if t668 ≥ 0 then ((samphireref02_Sub.f k x0 x1).bind fun t669 => ((samphirelaw02_told.f k bt659.1 bt659.2 true t669).bind fun t672 => (samphirelaw02_NatSums.j2 k x0 x1 bt651.1 bt651.2 bt655.1 bt655.2 t668 (!t672)))) else (samphirelaw02_NatSums.j2 k x0 x1 bt651.1 bt651.2 bt655.1 bt655.2 t668 false)) else (none)) else (none)) else (if t668 ≥ 0 then ((samphireref02_Sub.f k x0 x1).bind fun t673 => ((samphirelaw02_told.f k bt659.1 bt659.2 true t673).bind fun t676 => (samphirelaw02_NatSums.j2 k x0 x1 bt651.1 bt651.2 bt655.1 bt655.2 t668 (!t676)))) else (samphirelaw02_NatSums.j2 k x0 x1 bt651.1 bt651.2 bt655.1 bt655.2 t668 false)))) else ((samphirelaw02_told.f k bt651.1 bt651.2 false ([] : List Int)).bind fun t663 => (if t663 = true then ((samphirelaw02_told.f k bt655.1 bt655.2 false ([] : List Int)).bind fun t664 => (if t664 = true then ((samphirelaw02_told.f k bt659.1 bt659.2 false ([] : List Int)).bind fun t665 => (if t665 = true then ((nat_Cmp.f k x0 x1).bind fun t666 => (if t666 = 0 then ((samphirelaw02_awake.f k).bind fun t667 => (some t667)) else (none))) else (none))) else (none))) else (none)))))))))
def samphirelaw02_NatSums.j2 : Nat → List Int → List Int → List Int → Int → List Int → Int → Int → Bool → Option (Bool)
  | 0, _, _, _, _, _, _, _, _ => none
  | k + 1, x0, x1, x6, x7, x8, x9, x12, x101 => if x101 = true then (none) else ((samphireref02_Add.f k x0 x1).bind fun t677 => ((samphirelaw02_told.f k x6 x7 true t677).bind fun t680 => (if t680 = true then ((samphireref02_Mul.f k x0 x1).bind fun t681 => ((samphirelaw02_told.f k x8 x9 true t681).bind fun t684 => (if t684 = true then ((nat_Cmp.f k x0 x1).bind fun t685 => (if t685 = x12 then ((nat_Bits.f x0).bind fun t686 => ((samphireref02_Bits.f k x0).bind fun t687 => (if t686 = t687 then ((samphirelaw02_awake.f k).bind fun t688 => (some t688)) else (none)))) else (none))) else (none)))) else (none))))
end
def samphirelaw02_NatSums.f (k : Nat) (l0 : List Int) (l1 : List Int) : Option (Bool) := (samphireref02_Small.f l0).bind fun t644 => (if t644 = true then ((samphireref02_Small.f l1).bind fun t645 => (samphirelaw02_NatSums.j0 k l0 l1 (!t645))) else (samphirelaw02_NatSums.j0 k l0 l1 true))
def samphirelaw02_NatSums.Pure : Prop := ∀ (l0 : List Int) (l1 : List Int), l0.length ≤ maxLen → l0.length * 4 ≤ 140737488351232 → (∀ x ∈ l0, (Lit.int .u32 x).wf = true) → l1.length ≤ maxLen → l1.length * 4 ≤ 140737488351232 → (∀ x ∈ l1, (Lit.int .u32 x).wf = true) → ∃ k, samphirelaw02_NatSums.f k l0 l1 = some true
mutual
def samphirelaw02_NatBack.j0 : Nat → List Int → List Int → Bool → Option (Bool)
  | 0, _, _, _ => none
  | k + 1, x0, x1, x35 => if x35 = true then ((samphirelaw02_awake.f k).bind fun t691 => (some t691)) else ((nat_Add.f k x0 x1).bind fun bt692 => ((nat_Sub.f k bt692.1 x1).bind fun bt696 => ((nat_Text.f k x0).bind fun t700 => ((nat_Read.f k t700).bind fun bt701 => (if bt692.2 = 0 then (if bt696.2 = 0 then (if bt701.2 = 0 then ((nat_Cmp.f k bt696.1 x0).bind fun t705 => (if t705 = 0 then ((nat_Cmp.f k bt701.1 x0).bind fun t706 => (if t706 = 0 then ((samphireref02_Same.f k bt696.1 x0).bind fun t707 => (if t707 = true then ((samphireref02_Same.f k bt701.1 x0).bind fun t708 => (samphirelaw02_NatBack.j1 k x0 x1 (!t708))) else (none))) else (none))) else (none))) else (none)) else (none)) else (none))))))
def samphirelaw02_NatBack.j1 : Nat → List Int → List Int → Bool → Option (Bool)
  | 0, _, _, _ => none
  | k + 1, x0, x1, x88 => if x88 = true then (none) else ((nat_Div.f k x0 x1).bind fun bt709 => (if bt709.2.2 = 0 then ((nat_Mul.f k bt709.1 x1).bind fun bt717 => ((nat_Add.f k bt717.1 bt709.2.1).bind fun bt721 => (if bt717.2 = 0 then (if bt721.2 = 0 then ((samphireref02_Same.f k bt721.1 x0).bind fun t725 => (if t725 = true then ((nat_Cmp.f k bt709.2.1 x1).bind fun t726 => (if t726 < 0 then ((samphirelaw02_awake.f k).bind fun t727 => (some t727)) else (none))) else (none))) else (none)) else (none)))) else (if (x1.length : Int) = 0 then ((samphirelaw02_awake.f k).bind fun t716 => (some t716)) else (none))))
end
def samphirelaw02_NatBack.f (k : Nat) (l0 : List Int) (l1 : List Int) : Option (Bool) := if (l0.length : Int) > 30 then (samphirelaw02_NatBack.j0 k l0 l1 true) else (if (l1.length : Int) > 30 then (samphirelaw02_NatBack.j0 k l0 l1 true) else ((nat_Right.f l0).bind fun t689 => (if t689 = true then ((nat_Right.f l1).bind fun t690 => (samphirelaw02_NatBack.j0 k l0 l1 (!t690))) else (samphirelaw02_NatBack.j0 k l0 l1 true))))
def samphirelaw02_NatBack.Pure : Prop := ∀ (l0 : List Int) (l1 : List Int), l0.length ≤ maxLen → l0.length * 4 ≤ 140737488351232 → (∀ x ∈ l0, (Lit.int .u32 x).wf = true) → l1.length ≤ maxLen → l1.length * 4 ≤ 140737488351232 → (∀ x ∈ l1, (Lit.int .u32 x).wf = true) → ∃ k, samphirelaw02_NatBack.f k l0 l1 = some true
mutual
def samphirelaw02_NatBits.j0 : Nat → List Int → List Int → Bool → Option (Bool)
  | 0, _, _, _ => none
  | k + 1, x0, x1, x29 => if x29 = true then ((samphirelaw02_awake.f k).bind fun t730 => (some t730)) else ((nat_Mul.f k x0 x1).bind fun bt731 => ((nat_Add.f k x0 x1).bind fun bt735 => ((nat_Bits.f x0).bind fun t739 => ((nat_Bits.f x1).bind fun t740 => ((nat_Bits.f bt731.1).bind fun t741 => (if t739 > 0 then (if t740 > 0 then (if t741 = (wrap64 (t739 + t740)) then (if t739 = 0 then (samphirelaw02_NatBits.j1 k bt731.2 bt735.1 bt735.2 t739 t740 (t741 != 0)) else (if t740 = 0 then (samphirelaw02_NatBits.j1 k bt731.2 bt735.1 bt735.2 t739 t740 (t741 != 0)) else (samphirelaw02_NatBits.j1 k bt731.2 bt735.1 bt735.2 t739 t740 false))) else (if t741 = (wrap64 ((wrap64 (t739 + t740)) - 1)) then (if t739 = 0 then (samphirelaw02_NatBits.j1 k bt731.2 bt735.1 bt735.2 t739 t740 (t741 != 0)) else (if t740 = 0 then (samphirelaw02_NatBits.j1 k bt731.2 bt735.1 bt735.2 t739 t740 (t741 != 0)) else (samphirelaw02_NatBits.j1 k bt731.2 bt735.1 bt735.2 t739 t740 false))) else (none))) else (if t739 = 0 then (samphirelaw02_NatBits.j1 k bt731.2 bt735.1 bt735.2 t739 t740 (t741 != 0)) else (if t740 = 0 then (samphirelaw02_NatBits.j1 k bt731.2 bt735.1 bt735.2 t739 t740 (t741 != 0)) else (samphirelaw02_NatBits.j1 k bt731.2 bt735.1 bt735.2 t739 t740 false)))) else (if t739 = 0 then (samphirelaw02_NatBits.j1 k bt731.2 bt735.1 bt735.2 t739 t740 (t741 != 0)) else (if t740 = 0 then (samphirelaw02_NatBits.j1 k bt731.2 bt735.1 bt735.2 t739 t740 (t741 != 0)) else (samphirelaw02_NatBits.j1 k bt731.2 bt735.1 bt735.2 t739 t740 false)))))))))
def samphirelaw02_NatBits.j1 : Nat → Int → List Int → Int → Int → Int → Bool → Option (Bool)
  | 0, _, _, _, _, _, _ => none
  | k + 1, x6, x7, x8, x9, x10, x81 => if x81 = true then (none) else (if x6 = 0 then (if x8 = 0 then ((nat_Bits.f x7).bind fun t742 => (if t742 ≥ (mx x9 x10) then ((nat_Bits.f x7).bind fun t743 => (if t743 ≤ (wrap64 ((mx x9 x10) + 1)) then ((samphirelaw02_awake.f k).bind fun t744 => (some t744)) else (none))) else (none))) else (none)) else (none))
end
def samphirelaw02_NatBits.f (k : Nat) (l0 : List Int) (l1 : List Int) : Option (Bool) := if (l0.length : Int) > 30 then (samphirelaw02_NatBits.j0 k l0 l1 true) else (if (l1.length : Int) > 30 then (samphirelaw02_NatBits.j0 k l0 l1 true) else ((nat_Right.f l0).bind fun t728 => (if t728 = true then ((nat_Right.f l1).bind fun t729 => (samphirelaw02_NatBits.j0 k l0 l1 (!t729))) else (samphirelaw02_NatBits.j0 k l0 l1 true))))
def samphirelaw02_NatBits.Pure : Prop := ∀ (l0 : List Int) (l1 : List Int), l0.length ≤ maxLen → l0.length * 4 ≤ 140737488351232 → (∀ x ∈ l0, (Lit.int .u32 x).wf = true) → l1.length ≤ maxLen → l1.length * 4 ≤ 140737488351232 → (∀ x ∈ l1, (Lit.int .u32 x).wf = true) → ∃ k, samphirelaw02_NatBits.f k l0 l1 = some true
def wide_kept.f (a0_0 : Int) (a0_1 : Int) (a1 : Bool) : Option (Int × Int × Bool) := if a1 = true then (some (0, 0, false)) else (some (a0_0, a0_1, true))
def bits_Mul64.f (a0 a1 : Int) : Option (Int × Int) := if 0 ≤ a0 ∧ a0 < 18446744073709551616 ∧ 0 ≤ a1 ∧ a1 < 18446744073709551616 then some (a0 * a1 / 18446744073709551616, a0 * a1 % 18446744073709551616) else none
def wide_Full.f (a0 : Int) (a1 : Int) : Option (Int × Int) := (bits_Mul64.f a0 a1).bind fun bt755 => (some (bt755.1, bt755.2))
def wide_Of.f (a0 : Int) : Option (Int × Int) := some (0, a0)
def wide_order.f (a0 : Int) (a1 : Int) : Option (Int) := if a0 < a1 then (some (-1)) else (if a0 > a1 then (some 1) else (some 0))
def wide_Cmp.f (a0_0 : Int) (a0_1 : Int) (a1_0 : Int) (a1_1 : Int) : Option (Int) := (wide_order.f a0_0 a1_0).bind fun t769 => (if t769 = 0 then ((wide_order.f a0_1 a1_1).bind fun t770 => (some t770)) else (some t769))
def wide_double.f (a0_0 : Int) (a0_1 : Int) (a1 : Int) : Option (Int × Int × Bool) := some (Go.bits .or .u64 (IntKind.u64.wrap (a0_0 * 2)) (a0_1 / 9223372036854775808), Go.bits .or .u64 (IntKind.u64.wrap (a0_1 * 2)) a1, ((a0_0 / 9223372036854775808) != 0))
def bits_Len64.f (a0 : Int) : Option Int := if 0 ≤ a0 ∧ a0 ≤ 18446744073709551615 then some ((Lib.bitLen a0.toNat : Nat) : Int) else none
def bits_LeadingZeros64.f (a0 : Int) : Option (Int) := (bits_Len64.f a0).bind fun t786 => (some (wrap64 (64 - t786)))
mutual
def bits_Div64.j2 : Nat → Int → Int → Int → Int → Int → Int → Int → Int → Option (Int × Int)
  | 0, _, _, _, _, _, _, _, _ => none
  | k + 1, x2, x8, x9, x10, x11, x13, x14, x15 => if x9 = 0 then (none) else (bits_Div64.l1 k x2 x8 x9 x10 x14 x15 (IntKind.u64.wrap ((IntKind.u64.wrap ((IntKind.u64.wrap ((IntKind.u64.wrap (x11 * 4294967296)) + x13)) - (IntKind.u64.wrap (x15 * x2)))) - (IntKind.u64.wrap ((IntKind.u64.wrap (Int.tdiv (IntKind.u64.wrap ((IntKind.u64.wrap ((IntKind.u64.wrap (x11 * 4294967296)) + x13)) - (IntKind.u64.wrap (x15 * x2)))) x9)) * x9)))) (IntKind.u64.wrap ((IntKind.u64.wrap ((IntKind.u64.wrap (x11 * 4294967296)) + x13)) - (IntKind.u64.wrap (x15 * x2)))) (IntKind.u64.wrap (Int.tdiv (IntKind.u64.wrap ((IntKind.u64.wrap ((IntKind.u64.wrap (x11 * 4294967296)) + x13)) - (IntKind.u64.wrap (x15 * x2)))) x9)))
def bits_Div64.l1 : Nat → Int → Int → Int → Int → Int → Int → Int → Int → Int → Option (Int × Int)
  | 0, _, _, _, _, _, _, _, _, _ => none
  | k + 1, x2, x8, x9, x10, x14, x15, x16, x17, x18 => if x18 ≥ 4294967296 then (bits_Div64.j4 k x2 x8 x9 x10 x14 x15 x16 x17 x18 true) else (bits_Div64.j4 k x2 x8 x9 x10 x14 x15 x16 x17 x18 (decide ((IntKind.u64.wrap (x18 * x10)) > (IntKind.u64.wrap ((IntKind.u64.wrap (4294967296 * x16)) + x14)))))
def bits_Div64.j4 : Nat → Int → Int → Int → Int → Int → Int → Int → Int → Int → Bool → Option (Int × Int)
  | 0, _, _, _, _, _, _, _, _, _, _ => none
  | k + 1, x2, x8, x9, x10, x14, x15, x16, x17, x18, x113 => if x113 = true then (if (IntKind.u64.wrap (x16 + x9)) ≥ 4294967296 then (if 0 ≤ x8 then (some (IntKind.u64.wrap ((IntKind.u64.wrap (x15 * 4294967296)) + (IntKind.u64.wrap (x18 - 1))), shr .u64 (IntKind.u64.wrap ((IntKind.u64.wrap ((IntKind.u64.wrap (x17 * 4294967296)) + x14)) - (IntKind.u64.wrap ((IntKind.u64.wrap (x18 - 1)) * x2)))) x8)) else (none)) else (bits_Div64.l1 k x2 x8 x9 x10 x14 x15 (IntKind.u64.wrap (x16 + x9)) x17 (IntKind.u64.wrap (x18 - 1)))) else (if 0 ≤ x8 then (some (IntKind.u64.wrap ((IntKind.u64.wrap (x15 * 4294967296)) + x18), shr .u64 (IntKind.u64.wrap ((IntKind.u64.wrap ((IntKind.u64.wrap (x17 * 4294967296)) + x14)) - (IntKind.u64.wrap (x18 * x2)))) x8)) else (none))
def bits_Div64.l0 : Nat → Int → Int → Int → Int → Int → Int → Int → Int → Int → Option (Int × Int)
  | 0, _, _, _, _, _, _, _, _, _ => none
  | k + 1, x2, x8, x9, x10, x11, x13, x14, x15, x16 => if x15 ≥ 4294967296 then (bits_Div64.j1 k x2 x8 x9 x10 x11 x13 x14 x15 x16 true) else (bits_Div64.j1 k x2 x8 x9 x10 x11 x13 x14 x15 x16 (decide ((IntKind.u64.wrap (x15 * x10)) > (IntKind.u64.wrap ((IntKind.u64.wrap (4294967296 * x16)) + x13)))))
def bits_Div64.j1 : Nat → Int → Int → Int → Int → Int → Int → Int → Int → Int → Bool → Option (Int × Int)
  | 0, _, _, _, _, _, _, _, _, _, _ => none
  | k + 1, x2, x8, x9, x10, x11, x13, x14, x15, x16, x78 => if x78 = true then (if (IntKind.u64.wrap (x16 + x9)) ≥ 4294967296 then (bits_Div64.j2 k x2 x8 x9 x10 x11 x13 x14 (IntKind.u64.wrap (x15 - 1))) else (bits_Div64.l0 k x2 x8 x9 x10 x11 x13 x14 (IntKind.u64.wrap (x15 - 1)) (IntKind.u64.wrap (x16 + x9)))) else (bits_Div64.j2 k x2 x8 x9 x10 x11 x13 x14 x15)
end
def bits_Div64.f (k : Nat) (a0 : Int) (a1 : Int) (a2 : Int) : Option (Int × Int) := if a2 = 0 then (none) else (if a2 ≤ a0 then (none) else (if a0 = 0 then (some (IntKind.u64.wrap (Int.tdiv a1 a2), Int.tmod a1 a2)) else ((bits_LeadingZeros64.f a2).bind fun t787 => (if 0 ≤ (IntKind.u64.wrap (t787)) then (if 0 ≤ (IntKind.u64.wrap (64 - (IntKind.u64.wrap (t787)))) then (if ((shl .u64 a2 (IntKind.u64.wrap (t787))) / 4294967296) = 0 then (none) else (bits_Div64.l0 k (shl .u64 a2 (IntKind.u64.wrap (t787))) (IntKind.u64.wrap (t787)) ((shl .u64 a2 (IntKind.u64.wrap (t787))) / 4294967296) (Go.bits .and .u64 (shl .u64 a2 (IntKind.u64.wrap (t787))) 4294967295) (Go.bits .or .u64 (shl .u64 a0 (IntKind.u64.wrap (t787))) (shr .u64 a1 (IntKind.u64.wrap (64 - (IntKind.u64.wrap (t787)))))) ((shl .u64 a1 (IntKind.u64.wrap (t787))) / 4294967296) (Go.bits .and .u64 (shl .u64 a1 (IntKind.u64.wrap (t787))) 4294967295) (IntKind.u64.wrap (Int.tdiv (Go.bits .or .u64 (shl .u64 a0 (IntKind.u64.wrap (t787))) (shr .u64 a1 (IntKind.u64.wrap (64 - (IntKind.u64.wrap (t787)))))) ((shl .u64 a2 (IntKind.u64.wrap (t787))) / 4294967296))) (IntKind.u64.wrap ((Go.bits .or .u64 (shl .u64 a0 (IntKind.u64.wrap (t787))) (shr .u64 a1 (IntKind.u64.wrap (64 - (IntKind.u64.wrap (t787)))))) - (IntKind.u64.wrap ((IntKind.u64.wrap (Int.tdiv (Go.bits .or .u64 (shl .u64 a0 (IntKind.u64.wrap (t787))) (shr .u64 a1 (IntKind.u64.wrap (64 - (IntKind.u64.wrap (t787)))))) ((shl .u64 a2 (IntKind.u64.wrap (t787))) / 4294967296))) * ((shl .u64 a2 (IntKind.u64.wrap (t787))) / 4294967296))))))) else (none)) else (none)))))
end Go.Proofs.YtdgbeejhccogpaaDoor.P
