/- This seat's types, as plain data know them. No condition. -/
import Derived.Test.YtmndbhgbngkakaaDoorGB
import Derived.Test.YtmndbhgbngkakaaDoorZ0
namespace Go.Proofs.YtmndbhgbngkakaaDoor.Z
open Go Go.RowKit Go.Proofs.YtmndbhgbngkakaaDoor.E Go.Proofs.YtmndbhgbngkakaaDoor.G
set_option linter.all false

theorem ones_ok {l : List Value} (h : l.all Value.oneCell' = true) : ∀ v, v ∈ l → v.oneCell' = true := List.all_eq_true.1 h
theorem flds_ok {P : Program} {l : List Field} (h : l.all (fun f => (tsz P f.type).isSome && ((P.underlying f.type).map isAggD).isSome) = true) : ∀ f, f ∈ l → (tsz P f.type).isSome = true ∧ ((P.underlying f.type).map isAggD).isSome = true := fun f hf => by
  have := List.all_eq_true.1 h f hf
  simpa using this
def ti2 : TI := ⟨.int .i64, 1, 8, false, [.int .i64 0], .int .i64, false⟩
theorem ti2_ok : TiOk Tryd.prog 2 ti2 := ⟨by kernel_rfl, by kernel_rfl, by kernel_rfl, ⟨_, tzr2, rfl, rfl, ones_ok rfl, (fun h => nomatch h)⟩, fun _ => rfl, by decide, (fun h => nomatch h), ⟨rfl, (fun h => nomatch h), (fun _ cs h => nomatch h)⟩, Tryd.underlying2⟩
def ti3 : TI := ⟨.int .i64, 1, 8, false, [.int .i64 0], .int .i64, false⟩
theorem ti3_ok : TiOk Tryd.prog 3 ti3 := ⟨by kernel_rfl, by kernel_rfl, by kernel_rfl, ⟨_, tzr3, rfl, rfl, ones_ok rfl, (fun h => nomatch h)⟩, fun _ => rfl, by decide, (fun h => nomatch h), ⟨rfl, (fun h => nomatch h), (fun _ cs h => nomatch h)⟩, Tryd.underlying3⟩
def ti4 : TI := ⟨.bool, 1, 1, false, [.bool false], .bool, false⟩
theorem ti4_ok : TiOk Tryd.prog 4 ti4 := ⟨by kernel_rfl, by kernel_rfl, by kernel_rfl, ⟨_, tzr4, rfl, rfl, ones_ok rfl, (fun h => nomatch h)⟩, fun _ => rfl, by decide, (fun h => nomatch h), ⟨rfl, (fun h => nomatch h), (fun _ cs h => nomatch h)⟩, Tryd.underlying4⟩
def ti5 : TI := ⟨.int .u8, 1, 1, false, [.int .u8 0], .int .u8, false⟩
theorem ti5_ok : TiOk Tryd.prog 5 ti5 := ⟨by kernel_rfl, by kernel_rfl, by kernel_rfl, ⟨_, tzr5, rfl, rfl, ones_ok rfl, (fun h => nomatch h)⟩, fun _ => rfl, by decide, (fun h => nomatch h), ⟨rfl, (fun h => nomatch h), (fun _ cs h => nomatch h)⟩, Tryd.underlying5⟩
def ti6 : TI := ⟨.int .u8, 1, 1, false, [.int .u8 0], .int .u8, false⟩
theorem ti6_ok : TiOk Tryd.prog 6 ti6 := ⟨by kernel_rfl, by kernel_rfl, by kernel_rfl, ⟨_, tzr6, rfl, rfl, ones_ok rfl, (fun h => nomatch h)⟩, fun _ => rfl, by decide, (fun h => nomatch h), ⟨rfl, (fun h => nomatch h), (fun _ cs h => nomatch h)⟩, Tryd.underlying6⟩
def ti7 : TI := ⟨.strct [(0, 1, false), (1, 1, false), (2, 1, false), (3, 1, false)], 4, 24, true, [.int .i64 0, .int .i64 0, .bool false, .int .u8 0], .agg [.int .i64, .int .i64, .bool, .int .u8], false⟩
theorem ti7_ok : TiOk Tryd.prog 7 ti7 := ⟨by kernel_rfl, by kernel_rfl, by kernel_rfl, ⟨_, tzr7, rfl, rfl, ones_ok rfl, fun _ => ⟨_, rfl⟩⟩, (fun h => nomatch h), by decide, (fun h => nomatch h), ⟨rfl, fun _ => ⟨_, rfl⟩, (fun h => nomatch h)⟩, ⟨_, Tryd.underlying7, (by kernel_rfl), flds_ok (by kernel_rfl)⟩⟩
def ti8 : TI := ⟨.strct [(0, 1, false), (1, 1, false), (2, 1, false), (3, 1, false)], 4, 24, true, [.int .i64 0, .int .i64 0, .bool false, .int .u8 0], .agg [.int .i64, .int .i64, .bool, .int .u8], false⟩
theorem ti8_ok : TiOk Tryd.prog 8 ti8 := ⟨by kernel_rfl, by kernel_rfl, by kernel_rfl, ⟨_, tzr8, rfl, rfl, ones_ok rfl, fun _ => ⟨_, rfl⟩⟩, (fun h => nomatch h), by decide, (fun h => nomatch h), ⟨rfl, fun _ => ⟨_, rfl⟩, (fun h => nomatch h)⟩, ⟨_, Tryd.underlying8, (by kernel_rfl), flds_ok (by kernel_rfl)⟩⟩
def ti9 : TI := ⟨.str, 1, 16, false, [.str ByteArray.empty], .str, false⟩
theorem ti9_ok : TiOk Tryd.prog 9 ti9 := ⟨by kernel_rfl, by kernel_rfl, by kernel_rfl, ⟨_, tzr9, rfl, rfl, ones_ok rfl, (fun h => nomatch h)⟩, fun _ => rfl, by decide, (fun h => nomatch h), ⟨rfl, (fun h => nomatch h), (fun _ cs h => nomatch h)⟩, Tryd.underlying9⟩
def ti10 : TI := ⟨.str, 1, 16, false, [.str ByteArray.empty], .str, false⟩
theorem ti10_ok : TiOk Tryd.prog 10 ti10 := ⟨by kernel_rfl, by kernel_rfl, by kernel_rfl, ⟨_, tzr10, rfl, rfl, ones_ok rfl, (fun h => nomatch h)⟩, fun _ => rfl, by decide, (fun h => nomatch h), ⟨rfl, (fun h => nomatch h), (fun _ cs h => nomatch h)⟩, Tryd.underlying10⟩
def ti11 : TI := ⟨.str, 1, 16, false, [.str ByteArray.empty], .str, false⟩
theorem ti11_ok : TiOk Tryd.prog 11 ti11 := ⟨by kernel_rfl, by kernel_rfl, by kernel_rfl, ⟨_, tzr11, rfl, rfl, ones_ok rfl, (fun h => nomatch h)⟩, fun _ => rfl, by decide, (fun h => nomatch h), ⟨rfl, (fun h => nomatch h), (fun _ cs h => nomatch h)⟩, Tryd.underlying11⟩
def ti12 : TI := ⟨.int .u64, 1, 8, false, [.int .u64 0], .int .u64, false⟩
theorem ti12_ok : TiOk Tryd.prog 12 ti12 := ⟨by kernel_rfl, by kernel_rfl, by kernel_rfl, ⟨_, tzr12, rfl, rfl, ones_ok rfl, (fun h => nomatch h)⟩, fun _ => rfl, by decide, (fun h => nomatch h), ⟨rfl, (fun h => nomatch h), (fun _ cs h => nomatch h)⟩, Tryd.underlying12⟩
def ti13 : TI := ⟨.strct [(0, 1, false), (1, 1, false)], 2, 24, true, [.str ByteArray.empty, .int .u64 0], .agg [.str, .int .u64], false⟩
theorem ti13_ok : TiOk Tryd.prog 13 ti13 := ⟨by kernel_rfl, by kernel_rfl, by kernel_rfl, ⟨_, tzr13, rfl, rfl, ones_ok rfl, fun _ => ⟨_, rfl⟩⟩, (fun h => nomatch h), by decide, (fun h => nomatch h), ⟨rfl, fun _ => ⟨_, rfl⟩, (fun h => nomatch h)⟩, ⟨_, Tryd.underlying13, (by kernel_rfl), flds_ok (by kernel_rfl)⟩⟩
def ti14 : TI := ⟨.strct [(0, 1, false), (1, 1, false)], 2, 24, true, [.str ByteArray.empty, .int .u64 0], .agg [.str, .int .u64], false⟩
theorem ti14_ok : TiOk Tryd.prog 14 ti14 := ⟨by kernel_rfl, by kernel_rfl, by kernel_rfl, ⟨_, tzr14, rfl, rfl, ones_ok rfl, fun _ => ⟨_, rfl⟩⟩, (fun h => nomatch h), by decide, (fun h => nomatch h), ⟨rfl, fun _ => ⟨_, rfl⟩, (fun h => nomatch h)⟩, ⟨_, Tryd.underlying14, (by kernel_rfl), flds_ok (by kernel_rfl)⟩⟩
def ti21 : TI := ⟨.int .i32, 1, 4, false, [.int .i32 0], .int .i32, false⟩
theorem ti21_ok : TiOk Tryd.prog 21 ti21 := ⟨by kernel_rfl, by kernel_rfl, by kernel_rfl, ⟨_, tzr21, rfl, rfl, ones_ok rfl, (fun h => nomatch h)⟩, fun _ => rfl, by decide, (fun h => nomatch h), ⟨rfl, (fun h => nomatch h), (fun _ cs h => nomatch h)⟩, Tryd.underlying21⟩
def ti22 : TI := ⟨.slice 30, 1, 24, false, [.nils], .row (.agg [.str, .int .u64, .int .u64]), false⟩
theorem ti22_ok : TiOk Tryd.prog 22 ti22 := ⟨by kernel_rfl, by kernel_rfl, by kernel_rfl, ⟨_, tzr22, rfl, rfl, ones_ok rfl, (fun h => nomatch h)⟩, fun _ => rfl, by decide, (fun h => nomatch h), ⟨rfl, (fun h => nomatch h), (fun _ cs h => nomatch h)⟩, Tryd.underlying22⟩
def ti25 : TI := ⟨.int .i64, 1, 8, false, [.int .i64 0], .int .i64, false⟩
theorem ti25_ok : TiOk Tryd.prog 25 ti25 := ⟨by kernel_rfl, by kernel_rfl, by kernel_rfl, ⟨_, tzr25, rfl, rfl, ones_ok rfl, (fun h => nomatch h)⟩, fun _ => rfl, by decide, (fun h => nomatch h), ⟨rfl, (fun h => nomatch h), (fun _ cs h => nomatch h)⟩, Tryd.underlying25⟩
def ti28 : TI := ⟨.int .u64, 1, 8, false, [.int .u64 0], .int .u64, false⟩
theorem ti28_ok : TiOk Tryd.prog 28 ti28 := ⟨by kernel_rfl, by kernel_rfl, by kernel_rfl, ⟨_, tzr28, rfl, rfl, ones_ok rfl, (fun h => nomatch h)⟩, fun _ => rfl, by decide, (fun h => nomatch h), ⟨rfl, (fun h => nomatch h), (fun _ cs h => nomatch h)⟩, Tryd.underlying28⟩
def ti29 : TI := ⟨.strct [(0, 1, false), (1, 1, false), (2, 1, false)], 3, 32, true, [.str ByteArray.empty, .int .u64 0, .int .u64 0], .agg [.str, .int .u64, .int .u64], false⟩
theorem ti29_ok : TiOk Tryd.prog 29 ti29 := ⟨by kernel_rfl, by kernel_rfl, by kernel_rfl, ⟨_, tzr29, rfl, rfl, ones_ok rfl, fun _ => ⟨_, rfl⟩⟩, (fun h => nomatch h), by decide, (fun h => nomatch h), ⟨rfl, fun _ => ⟨_, rfl⟩, (fun h => nomatch h)⟩, ⟨_, Tryd.underlying29, (by kernel_rfl), flds_ok (by kernel_rfl)⟩⟩
def ti30 : TI := ⟨.strct [(0, 1, false), (1, 1, false), (2, 1, false)], 3, 32, true, [.str ByteArray.empty, .int .u64 0, .int .u64 0], .agg [.str, .int .u64, .int .u64], true⟩
theorem ti30_ok : TiOk Tryd.prog 30 ti30 := ⟨by kernel_rfl, by kernel_rfl, by kernel_rfl, ⟨_, tzr30, rfl, rfl, ones_ok rfl, fun _ => ⟨_, rfl⟩⟩, (fun h => nomatch h), by decide, fun _ => struct_eq Tryd.underlying30 (by kernel_rfl) (by kernel_rfl) (by kernel_rfl) rfl, ⟨rfl, fun _ => ⟨_, rfl⟩, (fun h => nomatch h)⟩, ⟨_, Tryd.underlying30, (by kernel_rfl), flds_ok (by kernel_rfl)⟩⟩
def ti42 : TI := ⟨.slice 85, 1, 24, false, [.nils], .row (.int .u32), false⟩
theorem ti42_ok : TiOk Tryd.prog 42 ti42 := ⟨by kernel_rfl, by kernel_rfl, by kernel_rfl, ⟨_, tzr42, rfl, rfl, ones_ok rfl, (fun h => nomatch h)⟩, fun _ => rfl, by decide, (fun h => nomatch h), ⟨rfl, (fun h => nomatch h), (fun _ cs h => nomatch h)⟩, Tryd.underlying42⟩
def ti43 : TI := ⟨.slice 85, 1, 24, false, [.nils], .row (.int .u32), false⟩
theorem ti43_ok : TiOk Tryd.prog 43 ti43 := ⟨by kernel_rfl, by kernel_rfl, by kernel_rfl, ⟨_, tzr43, rfl, rfl, ones_ok rfl, (fun h => nomatch h)⟩, fun _ => rfl, by decide, (fun h => nomatch h), ⟨rfl, (fun h => nomatch h), (fun _ cs h => nomatch h)⟩, Tryd.underlying43⟩
def ti44 : TI := ⟨.strct [(0, 1, false), (1, 1, false)], 2, 48, true, [.nils, .nils], .agg [.row (.int .u32), .row (.int .u32)], false⟩
theorem ti44_ok : TiOk Tryd.prog 44 ti44 := ⟨by kernel_rfl, by kernel_rfl, by kernel_rfl, ⟨_, tzr44, rfl, rfl, ones_ok rfl, fun _ => ⟨_, rfl⟩⟩, (fun h => nomatch h), by decide, (fun h => nomatch h), ⟨rfl, fun _ => ⟨_, rfl⟩, (fun h => nomatch h)⟩, ⟨_, Tryd.underlying44, (by kernel_rfl), flds_ok (by kernel_rfl)⟩⟩
def ti45 : TI := ⟨.strct [(0, 1, false), (1, 1, false)], 2, 48, true, [.nils, .nils], .agg [.row (.int .u32), .row (.int .u32)], false⟩
theorem ti45_ok : TiOk Tryd.prog 45 ti45 := ⟨by kernel_rfl, by kernel_rfl, by kernel_rfl, ⟨_, tzr45, rfl, rfl, ones_ok rfl, fun _ => ⟨_, rfl⟩⟩, (fun h => nomatch h), by decide, (fun h => nomatch h), ⟨rfl, fun _ => ⟨_, rfl⟩, (fun h => nomatch h)⟩, ⟨_, Tryd.underlying45, (by kernel_rfl), flds_ok (by kernel_rfl)⟩⟩
def ti61 : TI := ⟨.strct [(0, 1, false), (1, 1, false)], 2, 16, true, [.int .u64 0, .int .u64 0], .agg [.int .u64, .int .u64], false⟩
theorem ti61_ok : TiOk Tryd.prog 61 ti61 := ⟨by kernel_rfl, by kernel_rfl, by kernel_rfl, ⟨_, tzr61, rfl, rfl, ones_ok rfl, fun _ => ⟨_, rfl⟩⟩, (fun h => nomatch h), by decide, (fun h => nomatch h), ⟨rfl, fun _ => ⟨_, rfl⟩, (fun h => nomatch h)⟩, ⟨_, Tryd.underlying61, (by kernel_rfl), flds_ok (by kernel_rfl)⟩⟩
def ti62 : TI := ⟨.strct [(0, 1, false), (1, 1, false)], 2, 16, true, [.int .u64 0, .int .u64 0], .agg [.int .u64, .int .u64], true⟩
theorem ti62_ok : TiOk Tryd.prog 62 ti62 := ⟨by kernel_rfl, by kernel_rfl, by kernel_rfl, ⟨_, tzr62, rfl, rfl, ones_ok rfl, fun _ => ⟨_, rfl⟩⟩, (fun h => nomatch h), by decide, fun _ => struct_eq Tryd.underlying62 (by kernel_rfl) (by kernel_rfl) (by kernel_rfl) rfl, ⟨rfl, fun _ => ⟨_, rfl⟩, (fun h => nomatch h)⟩, ⟨_, Tryd.underlying62, (by kernel_rfl), flds_ok (by kernel_rfl)⟩⟩
def ti78 : TI := ⟨.slice 3, 1, 24, false, [.nils], .row (.int .i64), false⟩
theorem ti78_ok : TiOk Tryd.prog 78 ti78 := ⟨by kernel_rfl, by kernel_rfl, by kernel_rfl, ⟨_, tzr78, rfl, rfl, ones_ok rfl, (fun h => nomatch h)⟩, fun _ => rfl, by decide, (fun h => nomatch h), ⟨rfl, (fun h => nomatch h), (fun _ cs h => nomatch h)⟩, Tryd.underlying78⟩
def ti85 : TI := ⟨.int .u32, 1, 4, false, [.int .u32 0], .int .u32, false⟩
theorem ti85_ok : TiOk Tryd.prog 85 ti85 := ⟨by kernel_rfl, by kernel_rfl, by kernel_rfl, ⟨_, tzr85, rfl, rfl, ones_ok rfl, (fun h => nomatch h)⟩, fun _ => rfl, by decide, (fun h => nomatch h), ⟨rfl, (fun h => nomatch h), (fun _ cs h => nomatch h)⟩, Tryd.underlying85⟩
def ti86 : TI := ⟨.int .u64, 1, 8, false, [.int .u64 0], .int .u64, false⟩
theorem ti86_ok : TiOk Tryd.prog 86 ti86 := ⟨by kernel_rfl, by kernel_rfl, by kernel_rfl, ⟨_, tzr86, rfl, rfl, ones_ok rfl, (fun h => nomatch h)⟩, fun _ => rfl, by decide, (fun h => nomatch h), ⟨rfl, (fun h => nomatch h), (fun _ cs h => nomatch h)⟩, Tryd.underlying86⟩
def ti95 : TI := ⟨.vec 8 28, 8, 64, true, List.replicate 8 (.int .u64 0), .agg (List.replicate 8 (.int .u64)), false⟩
theorem ti95_ok : TiOk Tryd.prog 95 ti95 := ⟨by kernel_rfl, by kernel_rfl, by kernel_rfl, ⟨_, tzr95, rfl, rfl, ones_ok rfl, fun _ => ⟨_, rfl⟩⟩, (fun h => nomatch h), by decide, (fun h => nomatch h), ⟨rfl, fun _ => ⟨_, rfl⟩, (fun h => nomatch h)⟩, Tryd.underlying95⟩
def ti105 : TI := ⟨.vec 9 5, 9, 9, true, List.replicate 9 (.int .u8 0), .agg (List.replicate 9 (.int .u8)), false⟩
theorem ti105_ok : TiOk Tryd.prog 105 ti105 := ⟨by kernel_rfl, by kernel_rfl, by kernel_rfl, ⟨_, tzr105, rfl, rfl, ones_ok rfl, fun _ => ⟨_, rfl⟩⟩, (fun h => nomatch h), by decide, (fun h => nomatch h), ⟨rfl, fun _ => ⟨_, rfl⟩, (fun h => nomatch h)⟩, Tryd.underlying105⟩
def ti106 : TI := ⟨.slice 5, 1, 24, false, [.nils], .row (.int .u8), false⟩
theorem ti106_ok : TiOk Tryd.prog 106 ti106 := ⟨by kernel_rfl, by kernel_rfl, by kernel_rfl, ⟨_, tzr106, rfl, rfl, ones_ok rfl, (fun h => nomatch h)⟩, fun _ => rfl, by decide, (fun h => nomatch h), ⟨rfl, (fun h => nomatch h), (fun _ cs h => nomatch h)⟩, Tryd.underlying106⟩
def ti114 : TI := ⟨.vec 16 28, 16, 128, true, List.replicate 16 (.int .u64 0), .agg (List.replicate 16 (.int .u64)), false⟩
theorem ti114_ok : TiOk Tryd.prog 114 ti114 := ⟨by kernel_rfl, by kernel_rfl, by kernel_rfl, ⟨_, tzr114, rfl, rfl, ones_ok rfl, fun _ => ⟨_, rfl⟩⟩, (fun h => nomatch h), by decide, (fun h => nomatch h), ⟨rfl, fun _ => ⟨_, rfl⟩, (fun h => nomatch h)⟩, Tryd.underlying114⟩
def ti129 : TI := ⟨.strct [(0, 1, false), (1, 1, false)], 2, 2, true, [.int .u8 0, .int .u8 0], .agg [.int .u8, .int .u8], false⟩
theorem ti129_ok : TiOk Tryd.prog 129 ti129 := ⟨by kernel_rfl, by kernel_rfl, by kernel_rfl, ⟨_, tzr129, rfl, rfl, ones_ok rfl, fun _ => ⟨_, rfl⟩⟩, (fun h => nomatch h), by decide, (fun h => nomatch h), ⟨rfl, fun _ => ⟨_, rfl⟩, (fun h => nomatch h)⟩, ⟨_, Tryd.underlying129, (by kernel_rfl), flds_ok (by kernel_rfl)⟩⟩
def ti130 : TI := ⟨.strct [(0, 1, false), (1, 1, false)], 2, 2, true, [.int .u8 0, .int .u8 0], .agg [.int .u8, .int .u8], false⟩
theorem ti130_ok : TiOk Tryd.prog 130 ti130 := ⟨by kernel_rfl, by kernel_rfl, by kernel_rfl, ⟨_, tzr130, rfl, rfl, ones_ok rfl, fun _ => ⟨_, rfl⟩⟩, (fun h => nomatch h), by decide, (fun h => nomatch h), ⟨rfl, fun _ => ⟨_, rfl⟩, (fun h => nomatch h)⟩, ⟨_, Tryd.underlying130, (by kernel_rfl), flds_ok (by kernel_rfl)⟩⟩
def ti142 : TI := ⟨.int .u8, 1, 1, false, [.int .u8 0], .int .u8, false⟩
theorem ti142_ok : TiOk Tryd.prog 142 ti142 := ⟨by kernel_rfl, by kernel_rfl, by kernel_rfl, ⟨_, tzr142, rfl, rfl, ones_ok rfl, (fun h => nomatch h)⟩, fun _ => rfl, by decide, (fun h => nomatch h), ⟨rfl, (fun h => nomatch h), (fun _ cs h => nomatch h)⟩, Tryd.underlying142⟩
def ti143 : TI := ⟨.int .u8, 1, 1, false, [.int .u8 0], .int .u8, false⟩
theorem ti143_ok : TiOk Tryd.prog 143 ti143 := ⟨by kernel_rfl, by kernel_rfl, by kernel_rfl, ⟨_, tzr143, rfl, rfl, ones_ok rfl, (fun h => nomatch h)⟩, fun _ => rfl, by decide, (fun h => nomatch h), ⟨rfl, (fun h => nomatch h), (fun _ cs h => nomatch h)⟩, Tryd.underlying143⟩
def ti146 : TI := ⟨.int .i32, 1, 4, false, [.int .i32 0], .int .i32, false⟩
theorem ti146_ok : TiOk Tryd.prog 146 ti146 := ⟨by kernel_rfl, by kernel_rfl, by kernel_rfl, ⟨_, tzr146, rfl, rfl, ones_ok rfl, (fun h => nomatch h)⟩, fun _ => rfl, by decide, (fun h => nomatch h), ⟨rfl, (fun h => nomatch h), (fun _ cs h => nomatch h)⟩, Tryd.underlying146⟩
def ti147 : TI := ⟨.int .i32, 1, 4, false, [.int .i32 0], .int .i32, false⟩
theorem ti147_ok : TiOk Tryd.prog 147 ti147 := ⟨by kernel_rfl, by kernel_rfl, by kernel_rfl, ⟨_, tzr147, rfl, rfl, ones_ok rfl, (fun h => nomatch h)⟩, fun _ => rfl, by decide, (fun h => nomatch h), ⟨rfl, (fun h => nomatch h), (fun _ cs h => nomatch h)⟩, Tryd.underlying147⟩
def tys : Ty := [(2, ti2), (3, ti3), (4, ti4), (5, ti5), (6, ti6), (7, ti7), (8, ti8), (9, ti9), (10, ti10), (11, ti11), (12, ti12), (13, ti13), (14, ti14), (21, ti21), (22, ti22), (25, ti25), (28, ti28), (29, ti29), (30, ti30), (42, ti42), (43, ti43), (44, ti44), (45, ti45), (61, ti61), (62, ti62), (78, ti78), (85, ti85), (86, ti86), (95, ti95), (105, ti105), (106, ti106), (114, ti114), (129, ti129), (130, ti130), (142, ti142), (143, ti143), (146, ti146), (147, ti147)]
theorem all_nil {P : Program} : ∀ p : Nat × TI, p ∈ ([] : Ty) → TiOk P p.1 p.2 := fun p h => nomatch h
theorem all_cons {P : Program} {t : Nat} {i : TI} {ty : Ty} (h : TiOk P t i) (k : ∀ p : Nat × TI, p ∈ ty → TiOk P p.1 p.2) : ∀ p : Nat × TI, p ∈ (t, i) :: ty → TiOk P p.1 p.2 := fun p hp => by
  cases hp with
  | head => exact h
  | tail _ hp => exact k p hp
theorem tys_all : ∀ p : Nat × TI, p ∈ tys → TiOk Tryd.prog p.1 p.2 := (all_cons ti2_ok (all_cons ti3_ok (all_cons ti4_ok (all_cons ti5_ok (all_cons ti6_ok (all_cons ti7_ok (all_cons ti8_ok (all_cons ti9_ok (all_cons ti10_ok (all_cons ti11_ok (all_cons ti12_ok (all_cons ti13_ok (all_cons ti14_ok (all_cons ti21_ok (all_cons ti22_ok (all_cons ti25_ok (all_cons ti28_ok (all_cons ti29_ok (all_cons ti30_ok (all_cons ti42_ok (all_cons ti43_ok (all_cons ti44_ok (all_cons ti45_ok (all_cons ti61_ok (all_cons ti62_ok (all_cons ti78_ok (all_cons ti85_ok (all_cons ti86_ok (all_cons ti95_ok (all_cons ti105_ok (all_cons ti106_ok (all_cons ti114_ok (all_cons ti129_ok (all_cons ti130_ok (all_cons ti142_ok (all_cons ti143_ok (all_cons ti146_ok (all_cons ti147_ok all_nil))))))))))))))))))))))))))))))))))))))
/-- The types that code names. -/
def opTs : Op → List Nat
  | .alloc t | .box t _ | .build t _ | .buildSlice t _ _ | .load t _ | .store t _ _ | .binOp _ t _ _ _ | .unOp _ t _ | .makeSlice t _ _ | .slice t _ _ _ _ | .fieldAddr t _ _ | .field t _ _ | .indexAddr t _ _ | .index t _ _ => [t]
  | .convert s d _ => [s, d]
  | .call c => c.argTypes.toList
  | _ => []
def codeTs : Code → List Nat
  | .region _ ops _ => ops.toList.flatMap fun o => opTs o.op
  | .seq a b => codeTs a ++ codeTs b
  | .cond _ a b => codeTs a ++ codeTs b
  | .block _ b => codeTs b
  | .loop b => codeTs b
  | _ => []
def resTs : List ResultVar → List Nat
  | [] => []
  | .cell _ t :: rs => t :: resTs rs
  | _ :: rs => resTs rs
/-- ... with those of what lies in them. -/
def withEl (ty : Ty) (l : List Nat) : List Nat := l.flatMap fun t => match G.look ty t with | some ⟨.slice e, _, _, _, _, _, _⟩ => [t, e] | some ⟨.arr _ e, _, _, _, _, _, _⟩ => [t, e] | some ⟨.vec _ e, _, _, _, _, _, _⟩ => [t, e] | _ => [t]
def tyOf (c : Code) (rs : List ResultVar) : Ty := tys.filter fun p => memN p.1 (withEl tys (withEl tys (codeTs c ++ resTs rs)))
theorem look_mem {α : Type _} : ∀ {l : List (Nat × α)} {t : Nat} {i : α}, G.look l t = some i → (t, i) ∈ l
  | [], t, i, h => by cases h
  | (n, a) :: l, t, i, h => by
    unfold G.look at h
    split at h
    · rename_i e; cases h; rw [← Nat.eq_of_beq_eq_true e]; exact .head _
    · exact .tail _ (look_mem h)
theorem tyOf_ok (c : Code) (rs : List ResultVar) : TyOk Tryd.prog (tyOf c rs) := fun t i h => tys_all _ (List.mem_filter.1 (look_mem h)).1
/-- A function of this seat. -/
theorem spec_goL {L : List (FuncId × Intr)} {S : Tab} (hS : TabOk (B.env L) S) {f : FuncId} {fn : Func} {c : Code} (hi : lookI L f = none) (hb : (B.env L).bad f = false) (hf : Tryd.prog.funcs[f]? = some fn) (hc : fn.body = some c) (own : Bool) (nws : List Bool) (run : Lz → List FV → (FV → FV → Prop) → Prop)
    (h : ∀ A : Lz, A = std → ∀ args q, run std args q → args.length ≤ fn.ntmps ∧ wpF A (tyOf c fn.results.toList) S c (startF own args) fun ex s => match ex with | .exit _ => False | _ => retF A (tyOf c fn.results.toList) own nws fn.results.toList s q) : SpecOk (B.env L) f ⟨own, run⟩ :=
  spec_ok (tyOf_ok c _) hS hi hb hf hc own nws run h
end Go.Proofs.YtmndbhgbngkakaaDoor.Z
