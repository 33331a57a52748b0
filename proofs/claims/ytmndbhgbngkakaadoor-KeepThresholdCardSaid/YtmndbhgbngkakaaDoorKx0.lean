/- What nat's functions and the document's naturals compute, as plain functions. No condition. -/
import Derived.Test.YtmndbhgbngkakaaDoorNY
namespace Go.Proofs.YtmndbhgbngkakaaDoor.K
open Go.RowKit Go.Proofs.YtmndbhgbngkakaaDoorW.PrintWords Go.Proofs.YtmndbhgbngkakaaDoorW.PrintLast Go.Proofs.YtmndbhgbngkakaaDoorW.PrintMore
set_option linter.all false
def nat_Right.f (l0 : List Int) : Option (Bool) := if (l0.length : Int) ≤ 64 then (if (l0.length : Int) = 0 then (some true) else (if 0 ≤ (wrap64 ((l0.length : Int) - 1)) then (if (wrap64 ((l0.length : Int) - 1)) < (l0.length : Int) then (some ((rd l0 (wrap64 ((l0.length : Int) - 1))) != 0)) else (none)) else (none))) else (some false)
def nat_trim.l0 : Nat → List Int → Int → Option (List Int)
  | 0, _, _ => none
  | k + 1, x0, x3 => if x3 > 0 then (if 0 ≤ (wrap64 (x3 - 1)) then (if (wrap64 (x3 - 1)) < (x0.length : Int) then (if (rd x0 (wrap64 (x3 - 1))) = 0 then (nat_trim.l0 k x0 (wrap64 (x3 - 1))) else (if 0 ≤ x3 then (if x3 ≤ (x0.length : Int) then (some (x0.take (x3 : Int).toNat)) else (none)) else (none))) else (none)) else (none)) else (if 0 ≤ x3 then (if x3 ≤ (x0.length : Int) then (some (x0.take (x3 : Int).toNat)) else (none)) else (none))
def nat_trim.f (k : Nat) (l0 : List Int) : Option (List Int) := nat_trim.l0 k l0 (l0.length : Int)
def nat_Of.f (k : Nat) (a0 : Int) : Option (List Int) := (nat_trim.f k (([(a0) % 4294967296, (a0 / 4294967296) % 4294967296] : List Int))).bind fun t112 => (some t112)
def api_Nat_uint32.f (l0 : List Int) : Option (List Int) := (some (([] : List Int) : List Int)).bind fun y115 => (if y115.length + l0.length < 35184372088832 then (some (y115 ++ l0)) else (none))
def nat_order.l0 : Nat → List Int → List Int → Int → Option (Int)
  | 0, _, _, _ => none
  | k + 1, x0, x1, x5 => if x5 ≥ 0 then (if 0 ≤ x5 then (if x5 < (x0.length : Int) then (if x5 < (x1.length : Int) then (if (rd x0 x5) < (rd x1 x5) then (some (-1)) else (if (rd x0 x5) > (rd x1 x5) then (some 1) else (nat_order.l0 k x0 x1 (wrap64 (x5 - 1))))) else (none)) else (none)) else (none)) else (some 0)
def nat_order.f (k : Nat) (l0 : List Int) (l1 : List Int) : Option (Int) := if (l0.length : Int) = (l1.length : Int) then (nat_order.l0 k l0 l1 (wrap64 ((l0.length : Int) - 1))) else (some ((2 * (mn (mx (wrap64 ((l0.length : Int) - (l1.length : Int))) 0) 1)) - 1))
def nat_short.l0 : Nat → List Int → Int → List Int → Int → Int → Option (List Int × Int)
  | 0, _, _, _, _, _ => none
  | k + 1, x0, x1, x6, x7, x8 => if x8 ≥ 0 then (if 0 ≤ x8 then (if x8 < (x0.length : Int) then (if (IntKind.u64.wrap (x1)) = 0 then (none) else (if x8 < (x6.length : Int) then (nat_short.l0 k x0 x1 (x6.set (x8 : Int).toNat ((IntKind.u64.wrap (Int.tdiv (Go.bits .or .u64 (IntKind.u64.wrap (x7 * 4294967296)) (IntKind.u64.wrap (rd x0 x8))) (IntKind.u64.wrap (x1)))) % 4294967296)) (Int.tmod (Go.bits .or .u64 (IntKind.u64.wrap (x7 * 4294967296)) (IntKind.u64.wrap (rd x0 x8))) (IntKind.u64.wrap (x1))) (wrap64 (x8 - 1))) else (none))) else (none)) else (none)) else ((nat_trim.f k x6).bind fun t130 => (some (t130, (x7) % 4294967296)))
def nat_short.f (k : Nat) (l0 : List Int) (a1 : Int) : Option (List Int × Int) := if 0 ≤ (l0.length : Int) then (if ((l0.length : Int) : Int).toNat ≤ 70368744177664 then (nat_short.l0 k l0 a1 (List.replicate ((l0.length : Int) : Int).toNat 0) 0 (wrap64 ((l0.length : Int) - 1))) else (none)) else (none)
def bits_Len32.f (a0 : Int) : Option Int := if 0 ≤ a0 ∧ a0 ≤ 4294967295 then some ((Lib.bitLen a0.toNat : Nat) : Int) else none
def bits_LeadingZeros32.f (a0 : Int) : Option (Int) := (bits_Len32.f a0).bind fun t133 => (some (wrap64 (32 - t133)))
def nat_shift.l0 : Nat → List Int → Int → List Int → Int → List Int → Int → Int → Option (List Int)
  | 0, _, _, _, _, _, _, _ => none
  | k + 1, x0, x1, x5, x6, x13, x14, x15 => if x15 < x14 then (if 0 ≤ x15 then (if x15 < (x13.length : Int) then (if 0 ≤ x1 then (if x15 < (x5.length : Int) then (if 0 ≤ (wrap64 (32 - x1)) then (nat_shift.l0 k x0 x1 (x5.set (x15 : Int).toNat (Go.bits .or .u32 (shl .u32 (rd x13 x15) x1) x6)) ((shr .u64 (IntKind.u64.wrap (rd x13 x15)) (wrap64 (32 - x1))) % 4294967296) x13 x14 (wrap64 (x15 + 1))) else (none)) else (none)) else (none)) else (none)) else (none)) else (if 0 ≤ (x0.length : Int) then (if (x0.length : Int) < (x5.length : Int) then (some (x5.set ((x0.length : Int) : Int).toNat x6)) else (none)) else (none))
def nat_shift.f (k : Nat) (l0 : List Int) (a1 : Int) : Option (List Int) := if 0 ≤ (wrap64 ((l0.length : Int) + 1)) then (if (wrap64 ((l0.length : Int) + 1) : Int).toNat ≤ 70368744177664 then (nat_shift.l0 k l0 a1 (List.replicate (wrap64 ((l0.length : Int) + 1) : Int).toNat 0) 0 l0 (l0.length : Int) 0) else (none)) else (none)
mutual
def nat_guess.l0 : Nat → List Int → List Int → Int → Int → Int → Int → Option (Int)
  | 0, _, _, _, _, _, _ => none
  | k + 1, x0, x1, x2, x7, x9, x10 => if x9 > 4294967295 then (nat_guess.j1 k x0 x1 x2 x7 x9 x10 true) else (if 0 ≤ (wrap64 (x7 - 2)) then (if (wrap64 (x7 - 2)) < (x1.length : Int) then (if 0 ≤ (wrap64 ((wrap64 (x2 + x7)) - 2)) then (if (wrap64 ((wrap64 (x2 + x7)) - 2)) < (x0.length : Int) then (nat_guess.j1 k x0 x1 x2 x7 x9 x10 (decide ((IntKind.u64.wrap (x9 * (IntKind.u64.wrap (rd x1 (wrap64 (x7 - 2)))))) > (Go.bits .or .u64 (IntKind.u64.wrap (x10 * 4294967296)) (IntKind.u64.wrap (rd x0 (wrap64 ((wrap64 (x2 + x7)) - 2)))))))) else (none)) else (none)) else (none)) else (none))
def nat_guess.j1 : Nat → List Int → List Int → Int → Int → Int → Int → Bool → Option (Int)
  | 0, _, _, _, _, _, _, _ => none
  | k + 1, x0, x1, x2, x7, x9, x10, x69 => if x69 = true then (if 0 ≤ (wrap64 (x7 - 1)) then (if (wrap64 (x7 - 1)) < (x1.length : Int) then (if (IntKind.u64.wrap (x10 + (IntKind.u64.wrap (rd x1 (wrap64 (x7 - 1)))))) > 4294967295 then (some (IntKind.u64.wrap (x9 - 1))) else (nat_guess.l0 k x0 x1 x2 x7 (IntKind.u64.wrap (x9 - 1)) (IntKind.u64.wrap (x10 + (IntKind.u64.wrap (rd x1 (wrap64 (x7 - 1)))))))) else (none)) else (none)) else (some x9)
end
def nat_guess.f (k : Nat) (l0 : List Int) (l1 : List Int) (a2 : Int) : Option (Int) := if 0 ≤ (wrap64 (a2 + (l1.length : Int))) then (if (wrap64 (a2 + (l1.length : Int))) < (l0.length : Int) then (if 0 ≤ (wrap64 ((wrap64 (a2 + (l1.length : Int))) - 1)) then (if (wrap64 ((wrap64 (a2 + (l1.length : Int))) - 1)) < (l0.length : Int) then (if 0 ≤ (wrap64 ((l1.length : Int) - 1)) then (if (wrap64 ((l1.length : Int) - 1)) < (l1.length : Int) then (if (IntKind.u64.wrap (rd l1 (wrap64 ((l1.length : Int) - 1)))) = 0 then (none) else (nat_guess.l0 k l0 l1 a2 (l1.length : Int) (IntKind.u64.wrap (Int.tdiv (Go.bits .or .u64 (IntKind.u64.wrap ((IntKind.u64.wrap (rd l0 (wrap64 (a2 + (l1.length : Int))))) * 4294967296)) (IntKind.u64.wrap (rd l0 (wrap64 ((wrap64 (a2 + (l1.length : Int))) - 1))))) (IntKind.u64.wrap (rd l1 (wrap64 ((l1.length : Int) - 1)))))) (Int.tmod (Go.bits .or .u64 (IntKind.u64.wrap ((IntKind.u64.wrap (rd l0 (wrap64 (a2 + (l1.length : Int))))) * 4294967296)) (IntKind.u64.wrap (rd l0 (wrap64 ((wrap64 (a2 + (l1.length : Int))) - 1))))) (IntKind.u64.wrap (rd l1 (wrap64 ((l1.length : Int) - 1))))))) else (none)) else (none)) else (none)) else (none)) else (none)) else (none)
def nat_take.l0 : Nat → List Int → List Int → Int → Int → Int → Int → Int → Int → Option (Bool × List Int)
  | 0, _, _, _, _, _, _, _, _ => none
  | k + 1, x0, x1, x2, x3, x9, x10, x15, x16 => if x16 < x15 then (if 0 ≤ x16 then (if x16 < (x1.length : Int) then (if 0 ≤ (wrap64 (x2 + x16)) then (if (wrap64 (x2 + x16)) < (x0.length : Int) then (nat_take.l0 k (x0.set ((wrap64 (x2 + x16)) : Int).toNat ((IntKind.u64.wrap ((IntKind.u64.wrap ((IntKind.u64.wrap (rd x0 (wrap64 (x2 + x16)))) - ((IntKind.u64.wrap (x9 + (IntKind.u64.wrap (x3 * (IntKind.u64.wrap (rd x1 x16)))))) % 4294967296))) - x10)) % 4294967296)) x1 x2 x3 ((IntKind.u64.wrap (x9 + (IntKind.u64.wrap (x3 * (IntKind.u64.wrap (rd x1 x16)))))) / 4294967296) ((IntKind.u64.wrap ((IntKind.u64.wrap ((IntKind.u64.wrap (rd x0 (wrap64 (x2 + x16)))) - ((IntKind.u64.wrap (x9 + (IntKind.u64.wrap (x3 * (IntKind.u64.wrap (rd x1 x16)))))) % 4294967296))) - x10)) / 9223372036854775808) x15 (wrap64 (x16 + 1))) else (none)) else (none)) else (none)) else (none)) else (if 0 ≤ (wrap64 (x2 + (x1.length : Int))) then (if (wrap64 (x2 + (x1.length : Int))) < (x0.length : Int) then (some ((((IntKind.u64.wrap ((IntKind.u64.wrap ((IntKind.u64.wrap (rd x0 (wrap64 (x2 + (x1.length : Int))))) - x9)) - x10)) / 9223372036854775808) != 0), (x0.set ((wrap64 (x2 + (x1.length : Int))) : Int).toNat ((IntKind.u64.wrap ((IntKind.u64.wrap ((IntKind.u64.wrap (rd x0 (wrap64 (x2 + (x1.length : Int))))) - x9)) - x10)) % 4294967296)))) else (none)) else (none))
def nat_take.f (k : Nat) (l0 : List Int) (l1 : List Int) (a2 : Int) (a3 : Int) : Option (Bool × List Int) := nat_take.l0 k l0 l1 a2 a3 0 0 (l1.length : Int) 0
def nat_give.l0 : Nat → List Int → List Int → Int → Int → Int → Int → Option (List Int)
  | 0, _, _, _, _, _, _ => none
  | k + 1, x0, x1, x2, x6, x9, x10 => if x10 < x9 then (if 0 ≤ (wrap64 (x2 + x10)) then (if (wrap64 (x2 + x10)) < (x0.length : Int) then (if 0 ≤ x10 then (if x10 < (x1.length : Int) then (nat_give.l0 k (x0.set ((wrap64 (x2 + x10)) : Int).toNat ((IntKind.u64.wrap (x6 + (IntKind.u64.wrap ((IntKind.u64.wrap (rd x0 (wrap64 (x2 + x10)))) + (IntKind.u64.wrap (rd x1 x10)))))) % 4294967296)) x1 x2 ((IntKind.u64.wrap (x6 + (IntKind.u64.wrap ((IntKind.u64.wrap (rd x0 (wrap64 (x2 + x10)))) + (IntKind.u64.wrap (rd x1 x10)))))) / 4294967296) x9 (wrap64 (x10 + 1))) else (none)) else (none)) else (none)) else (none)) else (if 0 ≤ (wrap64 (x2 + (x1.length : Int))) then (if (wrap64 (x2 + (x1.length : Int))) < (x0.length : Int) then (some (x0.set ((wrap64 (x2 + (x1.length : Int))) : Int).toNat (((rd x0 (wrap64 (x2 + (x1.length : Int)))) + ((x6) % 4294967296)) % 4294967296))) else (none)) else (none))
def nat_give.f (k : Nat) (l0 : List Int) (l1 : List Int) (a2 : Int) : Option (List Int) := nat_give.l0 k l0 l1 a2 0 (l1.length : Int) 0
def nat_at.f (l0 : List Int) (a1 : Int) : Option (Int) := if a1 < (l0.length : Int) then (if 0 ≤ a1 then (some (IntKind.u64.wrap (rd l0 a1))) else (none)) else (some 0)
def nat_unshift.l0 : Nat → List Int → Int → List Int → List Int → Int → Int → Option (List Int)
  | 0, _, _, _, _, _, _ => none
  | k + 1, x0, x1, x5, x11, x12, x13 => if x13 < x12 then (if 0 ≤ x13 then (if x13 < (x11.length : Int) then (if 0 ≤ x1 then ((nat_at.f x0 (wrap64 (x13 + 1))).bind fun t162 => (if 0 ≤ (wrap64 (32 - x1)) then (if x13 < (x5.length : Int) then (nat_unshift.l0 k x0 x1 (x5.set (x13 : Int).toNat (Go.bits .or .u32 (shr .u32 (rd x11 x13) x1) ((shl .u64 t162 (wrap64 (32 - x1))) % 4294967296))) x11 x12 (wrap64 (x13 + 1))) else (none)) else (none))) else (none)) else (none)) else (none)) else (some x5)
def nat_unshift.f (k : Nat) (l0 : List Int) (a1 : Int) : Option (List Int) := if 0 ≤ (l0.length : Int) then (if ((l0.length : Int) : Int).toNat ≤ 70368744177664 then (nat_unshift.l0 k l0 a1 (List.replicate ((l0.length : Int) : Int).toNat 0) l0 (l0.length : Int) 0) else (none)) else (none)
def nat_long.l0 : Nat → Int → List Int → List Int → List Int → Int → Option (List Int × List Int)
  | 0, _, _, _, _, _ => none
  | k + 1, x6, x7, x8, x9, x10 => if x10 ≥ 0 then ((nat_guess.f k x7 x8 x10).bind fun t187 => ((nat_take.f k x7 x8 x10 t187).bind fun bt188 => (if bt188.1 = true then ((nat_give.f k bt188.2 x8 x10).bind fun t190 => (if 0 ≤ x10 then (if x10 < (x9.length : Int) then (nat_long.l0 k x6 t190 x8 (x9.set (x10 : Int).toNat ((IntKind.u64.wrap (t187 - 1)) % 4294967296)) (wrap64 (x10 - 1))) else (none)) else (none))) else (if 0 ≤ x10 then (if x10 < (x9.length : Int) then (nat_long.l0 k x6 bt188.2 x8 (x9.set (x10 : Int).toNat ((t187) % 4294967296)) (wrap64 (x10 - 1))) else (none)) else (none))))) else ((nat_trim.f k x9).bind fun t178 => ((nat_unshift.f k x7 x6).bind fun t181 => ((nat_trim.f k t181).bind fun t184 => (some (t178, t184)))))
def nat_long.f (k : Nat) (l0 : List Int) (l1 : List Int) : Option (List Int × List Int) := if 0 ≤ (wrap64 ((l1.length : Int) - 1)) then (if (wrap64 ((l1.length : Int) - 1)) < (l1.length : Int) then ((bits_LeadingZeros32.f (rd l1 (wrap64 ((l1.length : Int) - 1)))).bind fun t165 => ((nat_shift.f k l0 t165).bind fun t166 => ((nat_shift.f k l1 t165).bind fun t169 => (if 0 ≤ (l1.length : Int) then (if (l1.length : Int) ≤ (t169.length : Int) then (if 0 ≤ (wrap64 ((wrap64 ((l0.length : Int) - (l1.length : Int))) + 1)) then (if (wrap64 ((wrap64 ((l0.length : Int) - (l1.length : Int))) + 1) : Int).toNat ≤ 70368744177664 then ((some (List.replicate (wrap64 ((wrap64 ((l0.length : Int) - (l1.length : Int))) + 1) : Int).toNat 0 : List Int)).bind fun y175 => (nat_long.l0 k t165 t166 (t169.take ((l1.length : Int) : Int).toNat) y175 (wrap64 ((y175.length : Int) - 1)))) else (none)) else (none)) else (none)) else (none))))) else (none)) else (none)
def nat_split.f (k : Nat) (l0 : List Int) (l1 : List Int) : Option (List Int × List Int) := (nat_order.f k l0 l1).bind fun t193 => (if t193 < 0 then ((api_Nat_uint32.f l0).bind fun t194 => (some (([] : List Int), t194))) else (if (l1.length : Int) = 1 then (if 0 < (l1.length : Int) then ((nat_short.f k l0 (rd l1 0)).bind fun bt198 => ((nat_Of.f k (IntKind.u64.wrap (bt198.2))).bind fun t202 => (some (bt198.1, t202)))) else (none)) else ((nat_long.f k l0 l1).bind fun bt205 => (some (bt205.1, bt205.2)))))
mutual
def nat_Gcd.j0 : Nat → List Int → List Int → Bool → Option (List Int × Int)
  | 0, _, _, _ => none
  | k + 1, x0, x1, x15 => if x15 = true then (some (([] : List Int), 1)) else (nat_Gcd.l0 k x0 x1)
def nat_Gcd.l0 : Nat → List Int → List Int → Option (List Int × Int)
  | 0, _, _ => none
  | k + 1, x0, x1 => if (x1.length : Int) > 0 then ((nat_split.f k x0 x1).bind fun bt213 => (nat_Gcd.l0 k x1 bt213.2)) else ((api_Nat_uint32.f x0).bind fun t219 => (some (t219, 0)))
end
def nat_Gcd.f (k : Nat) (l0 : List Int) (l1 : List Int) : Option (List Int × Int) := (nat_Right.f l0).bind fun t211 => (if t211 = true then ((nat_Right.f l1).bind fun t212 => (nat_Gcd.j0 k l0 l1 (!t212))) else (nat_Gcd.j0 k l0 l1 true))
def nat_Div.j0 : Nat → List Int → List Int → Bool → Option (List Int × List Int × Int)
  | 0, _, _, _ => none
  | k + 1, x0, x1, x9 => if x9 = true then (some (([] : List Int), ([] : List Int), 1)) else (if (x1.length : Int) = 0 then (some (([] : List Int), ([] : List Int), 7)) else ((nat_split.f k x0 x1).bind fun bt224 => (some (bt224.1, bt224.2, 0))))
def nat_Div.f (k : Nat) (l0 : List Int) (l1 : List Int) : Option (List Int × List Int × Int) := (nat_Right.f l0).bind fun t222 => (if t222 = true then ((nat_Right.f l1).bind fun t223 => (nat_Div.j0 k l0 l1 (!t223))) else (nat_Div.j0 k l0 l1 true))
def nat_Cmp.f (k : Nat) (l0 : List Int) (l1 : List Int) : Option (Int) := (nat_Right.f l0).bind fun t230 => (if t230 = true then ((nat_Right.f l1).bind fun t231 => (if t231 = true then ((nat_order.f k l0 l1).bind fun t232 => (some t232)) else (some 0))) else (some 0))
def nat_kept.f (l0 : List Int) : Option (List Int × Int) := if (l0.length : Int) > 64 then (some (([] : List Int), 6)) else (some (l0, 0))
mutual
def nat_times.l0 : Nat → List Int → List Int → List Int → Int → Int → Option (List Int)
  | 0, _, _, _, _, _ => none
  | k + 1, x1, x5, x17, x18, x19 => if x19 < x18 then (if 0 ≤ x19 then (if x19 < (x17.length : Int) then (nat_times.l1 k x1 x5 x19 (rd x17 x19) 0 x17 x18 x19 x1 (x1.length : Int) 0) else (none)) else (none)) else ((nat_trim.f k x5).bind fun t236 => (some t236))
def nat_times.l1 : Nat → List Int → List Int → Int → Int → Int → List Int → Int → Int → List Int → Int → Int → Option (List Int)
  | 0, _, _, _, _, _, _, _, _, _, _, _ => none
  | k + 1, x1, x5, x6, x7, x8, x17, x18, x19, x24, x25, x26 => if x26 < x25 then (if 0 ≤ x26 then (if x26 < (x24.length : Int) then (if 0 ≤ (wrap64 (x6 + x26)) then (if (wrap64 (x6 + x26)) < (x5.length : Int) then (nat_times.l1 k x1 (x5.set ((wrap64 (x6 + x26)) : Int).toNat ((IntKind.u64.wrap (x8 + (IntKind.u64.wrap ((IntKind.u64.wrap ((IntKind.u64.wrap (x7)) * (IntKind.u64.wrap (rd x24 x26)))) + (IntKind.u64.wrap (rd x5 (wrap64 (x6 + x26)))))))) % 4294967296)) x6 x7 ((IntKind.u64.wrap (x8 + (IntKind.u64.wrap ((IntKind.u64.wrap ((IntKind.u64.wrap (x7)) * (IntKind.u64.wrap (rd x24 x26)))) + (IntKind.u64.wrap (rd x5 (wrap64 (x6 + x26)))))))) / 4294967296) x17 x18 x19 x24 x25 (wrap64 (x26 + 1))) else (none)) else (none)) else (none)) else (none)) else (if 0 ≤ (wrap64 (x6 + (x1.length : Int))) then (if (wrap64 (x6 + (x1.length : Int))) < (x5.length : Int) then (nat_times.l0 k x1 (x5.set ((wrap64 (x6 + (x1.length : Int))) : Int).toNat ((x8) % 4294967296)) x17 x18 (wrap64 (x19 + 1))) else (none)) else (none))
end
def nat_times.f (k : Nat) (l0 : List Int) (l1 : List Int) : Option (List Int) := if 0 ≤ (wrap64 ((l0.length : Int) + (l1.length : Int))) then (if (wrap64 ((l0.length : Int) + (l1.length : Int)) : Int).toNat ≤ 70368744177664 then (nat_times.l0 k l1 (List.replicate (wrap64 ((l0.length : Int) + (l1.length : Int)) : Int).toNat 0) l0 (l0.length : Int) 0) else (none)) else (none)
def nat_Mul.j0 : Nat → List Int → List Int → Bool → Option (List Int × Int)
  | 0, _, _, _ => none
  | k + 1, x0, x1, x13 => if x13 = true then (some (([] : List Int), 1)) else ((nat_times.f k x0 x1).bind fun t246 => ((nat_kept.f t246).bind fun bt249 => (some (bt249.1, bt249.2))))
def nat_Mul.f (k : Nat) (l0 : List Int) (l1 : List Int) : Option (List Int × Int) := (nat_Right.f l0).bind fun t244 => (if t244 = true then ((nat_Right.f l1).bind fun t245 => (nat_Mul.j0 k l0 l1 (!t245))) else (nat_Mul.j0 k l0 l1 true))
def nat_sum.l0 : Nat → List Int → List Int → List Int → Int → Int → Int → Option (List Int)
  | 0, _, _, _, _, _, _ => none
  | k + 1, x0, x1, x5, x6, x16, x17 => if x17 < x16 then ((nat_at.f x0 x17).bind fun t256 => ((nat_at.f x1 x17).bind fun t257 => (if 0 ≤ x17 then (if x17 < (x5.length : Int) then (nat_sum.l0 k x0 x1 (x5.set (x17 : Int).toNat ((IntKind.u64.wrap (x6 + (IntKind.u64.wrap (t256 + t257)))) % 4294967296)) ((IntKind.u64.wrap (x6 + (IntKind.u64.wrap (t256 + t257)))) / 4294967296) x16 (wrap64 (x17 + 1))) else (none)) else (none)))) else ((nat_trim.f k x5).bind fun t259 => (some t259))
def nat_sum.f (k : Nat) (l0 : List Int) (l1 : List Int) : Option (List Int) := if 0 ≤ (wrap64 ((mx (l0.length : Int) (l1.length : Int)) + 1)) then (if (wrap64 ((mx (l0.length : Int) (l1.length : Int)) + 1) : Int).toNat ≤ 70368744177664 then ((some (List.replicate (wrap64 ((mx (l0.length : Int) (l1.length : Int)) + 1) : Int).toNat 0 : List Int)).bind fun y253 => (nat_sum.l0 k l0 l1 y253 0 (y253.length : Int) 0)) else (none)) else (none)
def nat_Add.j0 : Nat → List Int → List Int → Bool → Option (List Int × Int)
  | 0, _, _, _ => none
  | k + 1, x0, x1, x13 => if x13 = true then (some (([] : List Int), 1)) else ((nat_sum.f k x0 x1).bind fun t264 => ((nat_kept.f t264).bind fun bt267 => (some (bt267.1, bt267.2))))
def nat_Add.f (k : Nat) (l0 : List Int) (l1 : List Int) : Option (List Int × Int) := (nat_Right.f l0).bind fun t262 => (if t262 = true then ((nat_Right.f l1).bind fun t263 => (nat_Add.j0 k l0 l1 (!t263))) else (nat_Add.j0 k l0 l1 true))
def nat_less.l0 : Nat → List Int → List Int → List Int → Int → Int → Int → Option (List Int)
  | 0, _, _, _, _, _, _ => none
  | k + 1, x0, x1, x5, x6, x13, x14 => if x14 < x13 then (if 0 ≤ x14 then (if x14 < (x0.length : Int) then ((nat_at.f x1 x14).bind fun t275 => (if x14 < (x5.length : Int) then (nat_less.l0 k x0 x1 (x5.set (x14 : Int).toNat ((IntKind.u64.wrap ((IntKind.u64.wrap ((IntKind.u64.wrap (rd x0 x14)) - t275)) - x6)) % 4294967296)) ((IntKind.u64.wrap ((IntKind.u64.wrap ((IntKind.u64.wrap (rd x0 x14)) - t275)) - x6)) / 9223372036854775808) x13 (wrap64 (x14 + 1))) else (none))) else (none)) else (none)) else ((nat_trim.f k x5).bind fun t277 => (some t277))
def nat_less.f (k : Nat) (l0 : List Int) (l1 : List Int) : Option (List Int) := if 0 ≤ (l0.length : Int) then (if ((l0.length : Int) : Int).toNat ≤ 70368744177664 then ((some (List.replicate ((l0.length : Int) : Int).toNat 0 : List Int)).bind fun y271 => (nat_less.l0 k l0 l1 y271 0 (y271.length : Int) 0)) else (none)) else (none)
def nat_Sub.f (k : Nat) (l0 : List Int) (l1 : List Int) : Option (List Int × Int) := (nat_Right.f l0).bind fun t280 => (if t280 = true then ((nat_Right.f l1).bind fun t281 => (if t281 = true then ((nat_order.f k l0 l1).bind fun t282 => (if t282 < 0 then (some (([] : List Int), 1)) else ((nat_less.f k l0 l1).bind fun t283 => (some (t283, 0))))) else (some (([] : List Int), 1)))) else (some (([] : List Int), 1)))
def digs (a0 : Int) : List Int := [48 + a0 / 10 / 10 / 10 / 10 / 10 / 10 / 10 / 10 % 10, 48 + a0 / 10 / 10 / 10 / 10 / 10 / 10 / 10 % 10, 48 + a0 / 10 / 10 / 10 / 10 / 10 / 10 % 10, 48 + a0 / 10 / 10 / 10 / 10 / 10 % 10, 48 + a0 / 10 / 10 / 10 / 10 % 10, 48 + a0 / 10 / 10 / 10 % 10, 48 + a0 / 10 / 10 % 10, 48 + a0 / 10 % 10, 48 + a0 % 10]
def nat_digits.f (a0 : Int) : Option ByteArray := if 0 ≤ a0 ∧ a0 < 4294967296 then some (strOfNums (digs a0)) else none
def strings_TrimLeft.f (a0 a1 : ByteArray) : Option ByteArray := if a0.size ≤ 9223372036854775807 ∧ a1.size < 4294967281 ∧ a1.data.toList.all (fun b => decide (b.toNat < 128)) = true then some ⟨(Lib.trimLeftS a0.data.toList a1.data.toList).toArray⟩ else none
def nat_Text.l0 : Nat → List Int → ByteArray → Option (ByteArray)
  | 0, _, _ => none
  | k + 1, x0, x3 => if (x0.length : Int) > 0 then ((nat_short.f k x0 1000000000).bind fun bt287 => ((nat_digits.f bt287.2).bind fun t291 => (if t291.size + x3.size ≤ 9223372036854775807 then (nat_Text.l0 k bt287.1 (t291 ++ x3)) else (none)))) else ((strings_TrimLeft.f x3 (⟨#[48]⟩ : ByteArray)).bind fun t292 => (if t292.toList = ([] : List UInt8) then (some (⟨#[48]⟩ : ByteArray)) else (some t292)))
def nat_Text.f (k : Nat) (l0 : List Int) : Option (ByteArray) := (nat_Right.f l0).bind fun t286 => (if t286 = true then (nat_Text.l0 k l0 (⟨#[]⟩ : ByteArray)) else (some (⟨#[]⟩ : ByteArray)))
def samphireref02_Same.l0 : Nat → List Int → List Int → Int → Option (Bool)
  | 0, _, _, _ => none
  | k + 1, x0, x1, x5 => if x5 < (x0.length : Int) then (if 0 ≤ x5 then (if x5 < (x1.length : Int) then (if (rd x0 x5) = (rd x1 x5) then (samphireref02_Same.l0 k x0 x1 (wrap64 (x5 + 1))) else (some false)) else (none)) else (none)) else (some true)
def samphireref02_Same.f (k : Nat) (l0 : List Int) (l1 : List Int) : Option (Bool) := if (l0.length : Int) = (l1.length : Int) then (samphireref02_Same.l0 k l0 l1 0) else (some false)
mutual
def samphireref02_Whole.l0 : Nat → List Int → List Int → Int → Option (List Int)
  | 0, _, _, _ => none
  | k + 1, x0, x3, x4 => if x4 < (x0.length : Int) then (if 0 ≤ x4 then (if (wrap64 (x4 + 1)) < (x0.length : Int) then (if 0 ≤ (wrap64 (x4 + 1)) then (if x3.length < 35184372088832 then (samphireref02_Whole.l0 k x0 (x3 ++ [(IntKind.u64.wrap ((rd x0 x4) + (IntKind.u64.wrap (65536 * (rd x0 (wrap64 (x4 + 1))))))) % 4294967296]) (wrap64 (x4 + 2))) else (none)) else (none)) else (if x3.length < 35184372088832 then (samphireref02_Whole.l0 k x0 (x3 ++ [(rd x0 x4) % 4294967296]) (wrap64 (x4 + 2))) else (none))) else (none)) else (samphireref02_Whole.l1 k x3)
def samphireref02_Whole.l1 : Nat → List Int → Option (List Int)
  | 0, _ => none
  | k + 1, x3 => if (x3.length : Int) > 0 then (if 0 ≤ (wrap64 ((x3.length : Int) - 1)) then (if (wrap64 ((x3.length : Int) - 1)) < (x3.length : Int) then (if (rd x3 (wrap64 ((x3.length : Int) - 1))) = 0 then (if (wrap64 ((x3.length : Int) - 1)) ≤ (x3.length : Int) then (samphireref02_Whole.l1 k (x3.take ((wrap64 ((x3.length : Int) - 1)) : Int).toNat)) else (none)) else (some x3)) else (none)) else (none)) else (some x3)
end
def samphireref02_Whole.f (k : Nat) (l0 : List Int) : Option (List Int) := samphireref02_Whole.l0 k l0 ([] : List Int) 0
def samphireref02_Of.f (k : Nat) (a0 : Int) : Option (List Int) := (samphireref02_Whole.f k (([Int.tmod a0 65536, Int.tmod (IntKind.u64.wrap (Int.tdiv a0 65536)) 65536, Int.tmod (IntKind.u64.wrap (Int.tdiv a0 4294967296)) 65536, IntKind.u64.wrap (Int.tdiv a0 281474976710656)] : List Int))).bind fun t310 => (some t310)
def samphireref02_Right.f (l0 : List Int) : Option (Bool) := if (l0.length : Int) > 64 then (some false) else (if (l0.length : Int) = 0 then (some true) else (if 0 ≤ (wrap64 ((l0.length : Int) - 1)) then (if (wrap64 ((l0.length : Int) - 1)) < (l0.length : Int) then (some (decide ((rd l0 (wrap64 ((l0.length : Int) - 1))) > 0))) else (none)) else (none)))
def samphireref02_Cmp.l0 : Nat → List Int → List Int → Int → Option (Int)
  | 0, _, _, _ => none
  | k + 1, x0, x1, x5 => if x5 ≥ 0 then (if 0 ≤ x5 then (if x5 < (x0.length : Int) then (if x5 < (x1.length : Int) then (if (rd x0 x5) = (rd x1 x5) then (samphireref02_Cmp.l0 k x0 x1 (wrap64 (x5 - 1))) else (if (rd x0 x5) < (rd x1 x5) then (some (-1)) else (some 1))) else (none)) else (none)) else (none)) else (some 0)
def samphireref02_Cmp.f (k : Nat) (l0 : List Int) (l1 : List Int) : Option (Int) := if (l0.length : Int) = (l1.length : Int) then (samphireref02_Cmp.l0 k l0 l1 (wrap64 ((l0.length : Int) - 1))) else (if (l0.length : Int) < (l1.length : Int) then (some (-1)) else (some 1))
def samphireref02_Half.l0 : Nat → List Int → Int → List Int → Int → Option (List Int)
  | 0, _, _, _, _ => none
  | k + 1, x0, x1, x5, x6 => if x6 < x1 then (if (wrap64 (Int.tdiv x6 2)) < (x0.length : Int) then (if 0 ≤ (wrap64 (Int.tdiv x6 2)) then (if (Int.tmod x6 2) = 0 then (if x5.length < 17592186044416 then (samphireref02_Half.l0 k x0 x1 (x5 ++ [Int.tmod (IntKind.u64.wrap (rd x0 (wrap64 (Int.tdiv x6 2)))) 65536]) (wrap64 (x6 + 1))) else (none)) else (if x5.length < 17592186044416 then (samphireref02_Half.l0 k x0 x1 (x5 ++ [IntKind.u64.wrap (Int.tdiv (IntKind.u64.wrap (rd x0 (wrap64 (Int.tdiv x6 2)))) 65536)]) (wrap64 (x6 + 1))) else (none))) else (none)) else (if (Int.tmod x6 2) = 0 then (if x5.length < 17592186044416 then (samphireref02_Half.l0 k x0 x1 (x5 ++ [0]) (wrap64 (x6 + 1))) else (none)) else (if x5.length < 17592186044416 then (samphireref02_Half.l0 k x0 x1 (x5 ++ [0]) (wrap64 (x6 + 1))) else (none)))) else (some x5)
def samphireref02_Half.f (k : Nat) (l0 : List Int) (a1 : Int) : Option (List Int) := samphireref02_Half.l0 k l0 a1 ([] : List Int) 0
def samphireref02_Sub.l0 : Nat → Int → List Int → List Int → Int → Int → Option (List Int)
  | 0, _, _, _, _, _ => none
  | k + 1, x5, x6, x7, x8, x9 => if x9 < x5 then (if 0 ≤ x9 then (if x9 < (x6.length : Int) then (if x9 < (x7.length : Int) then (samphireref02_Sub.l0 k x5 (x6.set (x9 : Int).toNat (Int.tmod (IntKind.u64.wrap ((IntKind.u64.wrap ((IntKind.u64.wrap (65536 + (rd x6 x9))) - (rd x7 x9))) - x8)) 65536)) x7 (IntKind.u64.wrap (1 - (IntKind.u64.wrap (Int.tdiv (IntKind.u64.wrap ((IntKind.u64.wrap ((IntKind.u64.wrap (65536 + (rd x6 x9))) - (rd x7 x9))) - x8)) 65536)))) (wrap64 (x9 + 1))) else (none)) else (none)) else (none)) else ((samphireref02_Whole.f k x6).bind fun t340 => (some t340))
def samphireref02_Sub.f (k : Nat) (l0 : List Int) (l1 : List Int) : Option (List Int) := (samphireref02_Half.f k l0 (wrap64 (2 * (l0.length : Int)))).bind fun t331 => ((samphireref02_Half.f k l1 (wrap64 (2 * (l0.length : Int)))).bind fun t334 => (samphireref02_Sub.l0 k (wrap64 (2 * (l0.length : Int))) t331 t334 0 0))
def samphireref02_even.f (l0 : List Int) : Option (Bool) := if (l0.length : Int) = 0 then (some true) else (if 0 < (l0.length : Int) then (some ((Int.tmod (rd l0 0) 2) == 0)) else (none))
mutual
def samphireref02_half.l0 : Nat → List Int → List Int → Int → Option (List Int)
  | 0, _, _, _ => none
  | k + 1, x0, x3, x4 => if x4 < (x0.length : Int) then (if 0 ≤ x4 then (if (wrap64 (x4 + 1)) < (x0.length : Int) then (if 0 ≤ (wrap64 (x4 + 1)) then (if x3.length < 35184372088832 then (samphireref02_half.l0 k x0 (x3 ++ [Go.bits .or .u32 ((rd x0 x4) / 2) (((rd x0 (wrap64 (x4 + 1))) * 2147483648) % 4294967296)]) (wrap64 (x4 + 1))) else (none)) else (none)) else (if x3.length < 35184372088832 then (samphireref02_half.l0 k x0 (x3 ++ [(rd x0 x4) / 2]) (wrap64 (x4 + 1))) else (none))) else (none)) else (samphireref02_half.l1 k x3)
def samphireref02_half.l1 : Nat → List Int → Option (List Int)
  | 0, _ => none
  | k + 1, x3 => if (x3.length : Int) > 0 then (if 0 ≤ (wrap64 ((x3.length : Int) - 1)) then (if (wrap64 ((x3.length : Int) - 1)) < (x3.length : Int) then (if (rd x3 (wrap64 ((x3.length : Int) - 1))) = 0 then (if (wrap64 ((x3.length : Int) - 1)) ≤ (x3.length : Int) then (samphireref02_half.l1 k (x3.take ((wrap64 ((x3.length : Int) - 1)) : Int).toNat)) else (none)) else (some x3)) else (none)) else (none)) else (some x3)
end
def samphireref02_half.f (k : Nat) (l0 : List Int) : Option (List Int) := samphireref02_half.l0 k l0 ([] : List Int) 0
def samphireref02_twice.l0 : Nat → List Int → List Int → Int → Int → Option (List Int)
  | 0, _, _, _, _ => none
  | k + 1, x0, x5, x6, x7 => if x7 < (x0.length : Int) then (if 0 ≤ x7 then (if x5.length < 35184372088832 then (samphireref02_twice.l0 k x0 (x5 ++ [Go.bits .or .u32 (((rd x0 x7) * 2) % 4294967296) x6]) ((rd x0 x7) / 2147483648) (wrap64 (x7 + 1))) else (none)) else (none)) else (if x6 > 0 then (if x5.length < 35184372088832 then (some (x5 ++ [x6])) else (none)) else (some x5))
def samphireref02_twice.f (k : Nat) (l0 : List Int) (a1 : Int) : Option (List Int) := samphireref02_twice.l0 k l0 ([] : List Int) a1 0
mutual
def samphireref02_Gcd.l0 : Nat → List Int → List Int → Int → Option (List Int)
  | 0, _, _, _ => none
  | k + 1, x0, x1, x5 => (samphireref02_even.f x0).bind fun t364 => (if t364 = true then ((samphireref02_even.f x1).bind fun t365 => (samphireref02_Gcd.j1 k x0 x1 x5 t365)) else (samphireref02_Gcd.j1 k x0 x1 x5 false))
def samphireref02_Gcd.j1 : Nat → List Int → List Int → Int → Bool → Option (List Int)
  | 0, _, _, _, _ => none
  | k + 1, x0, x1, x5, x19 => if x19 = true then ((samphireref02_half.f k x0).bind fun t366 => ((samphireref02_half.f k x1).bind fun t369 => (samphireref02_Gcd.l0 k t366 t369 (wrap64 (x5 + 1))))) else (samphireref02_Gcd.l1 k x0 x1 x5)
def samphireref02_Gcd.l1 : Nat → List Int → List Int → Int → Option (List Int)
  | 0, _, _, _ => none
  | k + 1, x0, x1, x5 => if (x0.length : Int) > 0 then (samphireref02_Gcd.l2 k x0 x1 x5) else (samphireref02_Gcd.l4 k x1 x5)
def samphireref02_Gcd.j4 : Nat → List Int → List Int → Int → Option (List Int)
  | 0, _, _, _ => none
  | k + 1, x0, x1, x5 => samphireref02_Gcd.l3 k x0 x1 x5
def samphireref02_Gcd.l3 : Nat → List Int → List Int → Int → Option (List Int)
  | 0, _, _, _ => none
  | k + 1, x0, x1, x5 => (samphireref02_even.f x1).bind fun t376 => (if t376 = true then ((samphireref02_half.f k x1).bind fun t377 => (samphireref02_Gcd.l3 k x0 t377 x5)) else ((samphireref02_Cmp.f k x0 x1).bind fun t380 => (if t380 < 0 then ((samphireref02_Sub.f k x1 x0).bind fun t381 => (samphireref02_Gcd.l1 k t381 x0 x5)) else ((samphireref02_Sub.f k x0 x1).bind fun t384 => (samphireref02_Gcd.l1 k t384 x1 x5)))))
def samphireref02_Gcd.l2 : Nat → List Int → List Int → Int → Option (List Int)
  | 0, _, _, _ => none
  | k + 1, x0, x1, x5 => (samphireref02_even.f x0).bind fun t372 => (if t372 = true then (if (x0.length : Int) > 0 then ((samphireref02_half.f k x0).bind fun t373 => (samphireref02_Gcd.l2 k t373 x1 x5)) else (samphireref02_Gcd.j4 k x0 x1 x5)) else (samphireref02_Gcd.j4 k x0 x1 x5))
def samphireref02_Gcd.l4 : Nat → List Int → Int → Option (List Int)
  | 0, _, _ => none
  | k + 1, x1, x5 => if x5 > 0 then ((samphireref02_twice.f k x1 0).bind fun t387 => (samphireref02_Gcd.l4 k t387 (wrap64 (x5 - 1)))) else (some x1)
end
def samphireref02_Gcd.f (k : Nat) (l0 : List Int) (l1 : List Int) : Option (List Int) := if (l0.length : Int) = 0 then (some l1) else (if (l1.length : Int) = 0 then (some l0) else (samphireref02_Gcd.l0 k l0 l1 0))
mutual
def samphireref02_Bits.l0 : Nat → List Int → Int → Int → Option (Int)
  | 0, _, _, _ => none
  | k + 1, x0, x3, x4 => if x4 < (x0.length : Int) then (samphireref02_Bits.l1 k x0 x3 x4 0) else (some x3)
def samphireref02_Bits.l1 : Nat → List Int → Int → Int → Int → Option (Int)
  | 0, _, _, _, _ => none
  | k + 1, x0, x3, x4, x5 => if x5 < 32 then (if 0 ≤ x4 then (if x4 < (x0.length : Int) then (if 0 ≤ (IntKind.u64.wrap (x5)) then (if (Int.tmod (shr .u32 (rd x0 x4) (IntKind.u64.wrap (x5))) 2) = 1 then (samphireref02_Bits.l1 k x0 (wrap64 ((wrap64 ((wrap64 (32 * x4)) + x5)) + 1)) x4 (wrap64 (x5 + 1))) else (samphireref02_Bits.l1 k x0 x3 x4 (wrap64 (x5 + 1)))) else (none)) else (none)) else (none)) else (samphireref02_Bits.l0 k x0 x3 (wrap64 (x4 + 1)))
end
def samphireref02_Bits.f (k : Nat) (l0 : List Int) : Option (Int) := samphireref02_Bits.l0 k l0 0 0
def samphireref02_Div.l0 : Nat → List Int → List Int → List Int → List Int → Int → Option (List Int × List Int)
  | 0, _, _, _, _, _ => none
  | k + 1, x0, x1, x6, x7, x8 => if x8 ≥ 0 then (if 0 ≤ (wrap64 (Int.tdiv x8 32)) then (if (wrap64 (Int.tdiv x8 32)) < (x0.length : Int) then (if 0 ≤ (IntKind.u64.wrap (Int.tmod x8 32)) then ((samphireref02_twice.f k x7 (Int.tmod (shr .u32 (rd x0 (wrap64 (Int.tdiv x8 32))) (IntKind.u64.wrap (Int.tmod x8 32))) 2)).bind fun t393 => ((samphireref02_Cmp.f k t393 x1).bind fun t396 => (if t396 ≥ 0 then ((samphireref02_Sub.f k t393 x1).bind fun t397 => ((samphireref02_twice.f k x6 1).bind fun t400 => (samphireref02_Div.l0 k x0 x1 t400 t397 (wrap64 (x8 - 1))))) else ((samphireref02_twice.f k x6 0).bind fun t403 => (samphireref02_Div.l0 k x0 x1 t403 t393 (wrap64 (x8 - 1))))))) else (none)) else (none)) else (none)) else (some (x6, x7))
def samphireref02_Div.f (k : Nat) (l0 : List Int) (l1 : List Int) : Option (List Int × List Int) := (samphireref02_Bits.f k l0).bind fun t391 => (samphireref02_Div.l0 k l0 l1 ([] : List Int) ([] : List Int) (wrap64 (t391 - 1)))
mutual
def samphireref02_Mul.l0 : Nat → Int → Int → List Int → List Int → List Int → Int → Option (List Int)
  | 0, _, _, _, _, _, _ => none
  | k + 1, x5, x6, x7, x8, x9, x10 => if x10 < x5 then (samphireref02_Mul.l1 k x5 x6 x7 x8 x9 x10 0 0) else ((samphireref02_Whole.f k x9).bind fun t415 => (some t415))
def samphireref02_Mul.l1 : Nat → Int → Int → List Int → List Int → List Int → Int → Int → Int → Option (List Int)
  | 0, _, _, _, _, _, _, _, _ => none
  | k + 1, x5, x6, x7, x8, x9, x10, x11, x12 => if x12 < x6 then (if 0 ≤ (wrap64 (x10 + x12)) then (if (wrap64 (x10 + x12)) < (x9.length : Int) then (if 0 ≤ x10 then (if x10 < (x7.length : Int) then (if 0 ≤ x12 then (if x12 < (x8.length : Int) then (samphireref02_Mul.l1 k x5 x6 x7 x8 (x9.set ((wrap64 (x10 + x12)) : Int).toNat (Int.tmod (IntKind.u64.wrap ((IntKind.u64.wrap ((rd x9 (wrap64 (x10 + x12))) + (IntKind.u64.wrap ((rd x7 x10) * (rd x8 x12))))) + x11)) 65536)) x10 (IntKind.u64.wrap (Int.tdiv (IntKind.u64.wrap ((IntKind.u64.wrap ((rd x9 (wrap64 (x10 + x12))) + (IntKind.u64.wrap ((rd x7 x10) * (rd x8 x12))))) + x11)) 65536)) (wrap64 (x12 + 1))) else (none)) else (none)) else (none)) else (none)) else (none)) else (none)) else (if 0 ≤ (wrap64 (x10 + x6)) then (if (wrap64 (x10 + x6)) < (x9.length : Int) then (samphireref02_Mul.l0 k x5 x6 x7 x8 (x9.set ((wrap64 (x10 + x6)) : Int).toNat (IntKind.u64.wrap ((rd x9 (wrap64 (x10 + x6))) + x11))) (wrap64 (x10 + 1))) else (none)) else (none))
end
def samphireref02_Mul.f (k : Nat) (l0 : List Int) (l1 : List Int) : Option (List Int) := (samphireref02_Half.f k l0 (wrap64 (2 * (l0.length : Int)))).bind fun t406 => ((samphireref02_Half.f k l1 (wrap64 (2 * (l1.length : Int)))).bind fun t409 => (if 0 ≤ (wrap64 ((wrap64 ((wrap64 (2 * (l0.length : Int))) + (wrap64 (2 * (l1.length : Int))))) + 2)) then (if (wrap64 ((wrap64 ((wrap64 (2 * (l0.length : Int))) + (wrap64 (2 * (l1.length : Int))))) + 2) : Int).toNat ≤ 35184372088832 then (samphireref02_Mul.l0 k (wrap64 (2 * (l0.length : Int))) (wrap64 (2 * (l1.length : Int))) t406 t409 (List.replicate (wrap64 ((wrap64 ((wrap64 (2 * (l0.length : Int))) + (wrap64 (2 * (l1.length : Int))))) + 2) : Int).toNat 0) 0) else (none)) else (none)))
def samphireref02_Add.l0 : Nat → Int → List Int → List Int → Int → Int → Option (List Int)
  | 0, _, _, _, _, _ => none
  | k + 1, x5, x6, x7, x8, x9 => if x9 < x5 then (if 0 ≤ x9 then (if x9 < (x6.length : Int) then (if x9 < (x7.length : Int) then (samphireref02_Add.l0 k x5 (x6.set (x9 : Int).toNat (Int.tmod (IntKind.u64.wrap ((IntKind.u64.wrap ((rd x6 x9) + (rd x7 x9))) + x8)) 65536)) x7 (IntKind.u64.wrap (Int.tdiv (IntKind.u64.wrap ((IntKind.u64.wrap ((rd x6 x9) + (rd x7 x9))) + x8)) 65536)) (wrap64 (x9 + 1))) else (none)) else (none)) else (none)) else ((samphireref02_Whole.f k x6).bind fun t433 => (some t433))
def samphireref02_Add.f (k : Nat) (l0 : List Int) (l1 : List Int) : Option (List Int) := (samphireref02_Half.f k l0 (wrap64 ((wrap64 (2 * (mx (l0.length : Int) (l1.length : Int)))) + 2))).bind fun t424 => ((samphireref02_Half.f k l1 (wrap64 ((wrap64 (2 * (mx (l0.length : Int) (l1.length : Int)))) + 2))).bind fun t427 => (samphireref02_Add.l0 k (wrap64 ((wrap64 (2 * (mx (l0.length : Int) (l1.length : Int)))) + 2)) t424 t427 0 0))
mutual
def samphireref02_Text.l0 : Nat → List Int → ByteArray → Option (ByteArray)
  | 0, _, _ => none
  | k + 1, x0, x3 => (samphireref02_Half.f k x0 (wrap64 (2 * (x0.length : Int)))).bind fun t436 => (samphireref02_Text.l1 k x3 0 t436 (wrap64 ((t436.length : Int) - 1)))
def samphireref02_Text.l1 : Nat → ByteArray → Int → List Int → Int → Option (ByteArray)
  | 0, _, _, _, _ => none
  | k + 1, x3, x5, x6, x7 => if x7 ≥ 0 then (if 0 ≤ x7 then (if x7 < (x6.length : Int) then (samphireref02_Text.l1 k x3 (Int.tmod (IntKind.u64.wrap ((IntKind.u64.wrap (65536 * x5)) + (rd x6 x7))) 10) (x6.set (x7 : Int).toNat (IntKind.u64.wrap (Int.tdiv (IntKind.u64.wrap ((IntKind.u64.wrap (65536 * x5)) + (rd x6 x7))) 10))) (wrap64 (x7 - 1))) else (none)) else (none)) else ((samphireref02_Whole.f k x6).bind fun t441 => ((some (([(IntKind.u64.wrap (48 + x5)) % 256] : List Int) : List Int)).bind fun y444 => (if (strOfNums y444).size + x3.size ≤ 9223372036854775807 then (if (t441.length : Int) = 0 then (some ((strOfNums y444) ++ x3)) else (samphireref02_Text.l0 k t441 ((strOfNums y444) ++ x3))) else (none))))
end
def samphireref02_Text.f (k : Nat) (l0 : List Int) : Option (ByteArray) := samphireref02_Text.l0 k l0 (⟨#[]⟩ : ByteArray)
end Go.Proofs.YtmndbhgbngkakaaDoor.K
