/- This seat's types, as plain data know them. No condition. -/
import Derived.Test.YtjipfimhmfhmhaaDoorGB
import Derived.Test.YtjipfimhmfhmhaaDoorZ0
namespace Go.Proofs.YtjipfimhmfhmhaaDoor.Z
open Go Go.RowKit Go.Proofs.YtjipfimhmfhmhaaDoor.E Go.Proofs.YtjipfimhmfhmhaaDoor.G
set_option linter.all false

theorem ones_ok {l : List Value} (h : l.all Value.oneCell' = true) : ∀ v, v ∈ l → v.oneCell' = true := List.all_eq_true.1 h
theorem flds_ok {P : Program} {l : List Field} (h : l.all (fun f => (tsz P f.type).isSome && ((P.underlying f.type).map isAggD).isSome) = true) : ∀ f, f ∈ l → (tsz P f.type).isSome = true ∧ ((P.underlying f.type).map isAggD).isSome = true := fun f hf => by
  have := List.all_eq_true.1 h f hf
  simpa using this
def ti2 : TI := ⟨.int .i64, 1, 8, false, [.int .i64 0], .int .i64, false⟩
theorem ti2_ok : TiOk Tryd.prog 2 ti2 := ⟨by kernel_rfl, by kernel_rfl, by kernel_rfl, ⟨_, tzr2, rfl, rfl, ones_ok rfl, (fun h => nomatch h)⟩, fun _ => rfl, by decide, (fun h => nomatch h), ⟨rfl, (fun h => nomatch h), (fun _ cs h => nomatch h)⟩, Tryd.underlying2⟩
def ti3 : TI := ⟨.int .i64, 1, 8, false, [.int .i64 0], .int .i64, false⟩
theorem ti3_ok : TiOk Tryd.prog 3 ti3 := ⟨by kernel_rfl, by kernel_rfl, by kernel_rfl, ⟨_, tzr3, rfl, rfl, ones_ok rfl, (fun h => nomatch h)⟩, fun _ => rfl, by decide, (fun h => nomatch h), ⟨rfl, (fun h => nomatch h), (fun _ cs h => nomatch h)⟩, Tryd.underlying3⟩
def ti4 : TI := ⟨.bool, 1, 1, false, [.bool false], .bool, false⟩
theorem ti4_ok : TiOk Tryd.prog 4 ti4 := ⟨by kernel_rfl, by kernel_rfl, by kernel_rfl, ⟨_, tzr4, rfl, rfl, ones_ok rfl, (fun h => nomatch h)⟩, fun _ => rfl, by decide, (fun h => nomatch h), ⟨rfl, (fun h => nomatch h), (fun _ cs h => nomatch h)⟩, Tryd.underlying4⟩
def ti5 : TI := ⟨.int .u8, 1, 1, false, [.int .u8 0], .int .u8, false⟩
theorem ti5_ok : TiOk Tryd.prog 5 ti5 := ⟨by kernel_rfl, by kernel_rfl, by kernel_rfl, ⟨_, tzr5, rfl, rfl, ones_ok rfl, (fun h => nomatch h)⟩, fun _ => rfl, by decide, (fun h => nomatch h), ⟨rfl, (fun h => nomatch h), (fun _ cs h => nomatch h)⟩, Tryd.underlying5⟩
def ti6 : TI := ⟨.int .u8, 1, 1, false, [.int .u8 0], .int .u8, false⟩
theorem ti6_ok : TiOk Tryd.prog 6 ti6 := ⟨by kernel_rfl, by kernel_rfl, by kernel_rfl, ⟨_, tzr6, rfl, rfl, ones_ok rfl, (fun h => nomatch h)⟩, fun _ => rfl, by decide, (fun h => nomatch h), ⟨rfl, (fun h => nomatch h), (fun _ cs h => nomatch h)⟩, Tryd.underlying6⟩
def ti7 : TI := ⟨.strct [(0, 1, false), (1, 1, false), (2, 1, false), (3, 1, false)], 4, 24, true, [.int .i64 0, .int .i64 0, .bool false, .int .u8 0], .agg [.int .i64, .int .i64, .bool, .int .u8], false⟩
theorem ti7_ok : TiOk Tryd.prog 7 ti7 := ⟨by kernel_rfl, by kernel_rfl, by kernel_rfl, ⟨_, tzr7, rfl, rfl, ones_ok rfl, fun _ => ⟨_, rfl⟩⟩, (fun h => nomatch h), by decide, (fun h => nomatch h), ⟨rfl, fun _ => ⟨_, rfl⟩, (fun h => nomatch h)⟩, ⟨_, Tryd.underlying7, (by kernel_rfl), flds_ok (by kernel_rfl)⟩⟩
def ti8 : TI := ⟨.strct [(0, 1, false), (1, 1, false), (2, 1, false), (3, 1, false)], 4, 24, true, [.int .i64 0, .int .i64 0, .bool false, .int .u8 0], .agg [.int .i64, .int .i64, .bool, .int .u8], false⟩
theorem ti8_ok : TiOk Tryd.prog 8 ti8 := ⟨by kernel_rfl, by kernel_rfl, by kernel_rfl, ⟨_, tzr8, rfl, rfl, ones_ok rfl, fun _ => ⟨_, rfl⟩⟩, (fun h => nomatch h), by decide, (fun h => nomatch h), ⟨rfl, fun _ => ⟨_, rfl⟩, (fun h => nomatch h)⟩, ⟨_, Tryd.underlying8, (by kernel_rfl), flds_ok (by kernel_rfl)⟩⟩
def ti9 : TI := ⟨.str, 1, 16, false, [.str ByteArray.empty], .str, false⟩
theorem ti9_ok : TiOk Tryd.prog 9 ti9 := ⟨by kernel_rfl, by kernel_rfl, by kernel_rfl, ⟨_, tzr9, rfl, rfl, ones_ok rfl, (fun h => nomatch h)⟩, fun _ => rfl, by decide, (fun h => nomatch h), ⟨rfl, (fun h => nomatch h), (fun _ cs h => nomatch h)⟩, Tryd.underlying9⟩
def ti10 : TI := ⟨.str, 1, 16, false, [.str ByteArray.empty], .str, false⟩
theorem ti10_ok : TiOk Tryd.prog 10 ti10 := ⟨by kernel_rfl, by kernel_rfl, by kernel_rfl, ⟨_, tzr10, rfl, rfl, ones_ok rfl, (fun h => nomatch h)⟩, fun _ => rfl, by decide, (fun h => nomatch h), ⟨rfl, (fun h => nomatch h), (fun _ cs h => nomatch h)⟩, Tryd.underlying10⟩
def ti11 : TI := ⟨.str, 1, 16, false, [.str ByteArray.empty], .str, false⟩
theorem ti11_ok : TiOk Tryd.prog 11 ti11 := ⟨by kernel_rfl, by kernel_rfl, by kernel_rfl, ⟨_, tzr11, rfl, rfl, ones_ok rfl, (fun h => nomatch h)⟩, fun _ => rfl, by decide, (fun h => nomatch h), ⟨rfl, (fun h => nomatch h), (fun _ cs h => nomatch h)⟩, Tryd.underlying11⟩
def ti12 : TI := ⟨.int .u64, 1, 8, false, [.int .u64 0], .int .u64, false⟩
theorem ti12_ok : TiOk Tryd.prog 12 ti12 := ⟨by kernel_rfl, by kernel_rfl, by kernel_rfl, ⟨_, tzr12, rfl, rfl, ones_ok rfl, (fun h => nomatch h)⟩, fun _ => rfl, by decide, (fun h => nomatch h), ⟨rfl, (fun h => nomatch h), (fun _ cs h => nomatch h)⟩, Tryd.underlying12⟩
def ti13 : TI := ⟨.strct [(0, 1, false), (1, 1, false)], 2, 24, true, [.str ByteArray.empty, .int .u64 0], .agg [.str, .int .u64], false⟩
theorem ti13_ok : TiOk Tryd.prog 13 ti13 := ⟨by kernel_rfl, by kernel_rfl, by kernel_rfl, ⟨_, tzr13, rfl, rfl, ones_ok rfl, fun _ => ⟨_, rfl⟩⟩, (fun h => nomatch h), by decide, (fun h => nomatch h), ⟨rfl, fun _ => ⟨_, rfl⟩, (fun h => nomatch h)⟩, ⟨_, Tryd.underlying13, (by kernel_rfl), flds_ok (by kernel_rfl)⟩⟩
def ti14 : TI := ⟨.strct [(0, 1, false), (1, 1, false)], 2, 24, true, [.str ByteArray.empty, .int .u64 0], .agg [.str, .int .u64], false⟩
theorem ti14_ok : TiOk Tryd.prog 14 ti14 := ⟨by kernel_rfl, by kernel_rfl, by kernel_rfl, ⟨_, tzr14, rfl, rfl, ones_ok rfl, fun _ => ⟨_, rfl⟩⟩, (fun h => nomatch h), by decide, (fun h => nomatch h), ⟨rfl, fun _ => ⟨_, rfl⟩, (fun h => nomatch h)⟩, ⟨_, Tryd.underlying14, (by kernel_rfl), flds_ok (by kernel_rfl)⟩⟩
def ti21 : TI := ⟨.int .i32, 1, 4, false, [.int .i32 0], .int .i32, false⟩
theorem ti21_ok : TiOk Tryd.prog 21 ti21 := ⟨by kernel_rfl, by kernel_rfl, by kernel_rfl, ⟨_, tzr21, rfl, rfl, ones_ok rfl, (fun h => nomatch h)⟩, fun _ => rfl, by decide, (fun h => nomatch h), ⟨rfl, (fun h => nomatch h), (fun _ cs h => nomatch h)⟩, Tryd.underlying21⟩
def ti22 : TI := ⟨.int .u64, 1, 8, false, [.int .u64 0], .int .u64, false⟩
theorem ti22_ok : TiOk Tryd.prog 22 ti22 := ⟨by kernel_rfl, by kernel_rfl, by kernel_rfl, ⟨_, tzr22, rfl, rfl, ones_ok rfl, (fun h => nomatch h)⟩, fun _ => rfl, by decide, (fun h => nomatch h), ⟨rfl, (fun h => nomatch h), (fun _ cs h => nomatch h)⟩, Tryd.underlying22⟩
def ti23 : TI := ⟨.strct [(0, 1, false), (1, 1, false), (2, 1, false)], 3, 32, true, [.str ByteArray.empty, .int .u64 0, .int .u64 0], .agg [.str, .int .u64, .int .u64], false⟩
theorem ti23_ok : TiOk Tryd.prog 23 ti23 := ⟨by kernel_rfl, by kernel_rfl, by kernel_rfl, ⟨_, tzr23, rfl, rfl, ones_ok rfl, fun _ => ⟨_, rfl⟩⟩, (fun h => nomatch h), by decide, (fun h => nomatch h), ⟨rfl, fun _ => ⟨_, rfl⟩, (fun h => nomatch h)⟩, ⟨_, Tryd.underlying23, (by kernel_rfl), flds_ok (by kernel_rfl)⟩⟩
def ti24 : TI := ⟨.strct [(0, 1, false), (1, 1, false), (2, 1, false)], 3, 32, true, [.str ByteArray.empty, .int .u64 0, .int .u64 0], .agg [.str, .int .u64, .int .u64], true⟩
theorem ti24_ok : TiOk Tryd.prog 24 ti24 := ⟨by kernel_rfl, by kernel_rfl, by kernel_rfl, ⟨_, tzr24, rfl, rfl, ones_ok rfl, fun _ => ⟨_, rfl⟩⟩, (fun h => nomatch h), by decide, fun _ => struct_eq Tryd.underlying24 (by kernel_rfl) (by kernel_rfl) (by kernel_rfl) rfl, ⟨rfl, fun _ => ⟨_, rfl⟩, (fun h => nomatch h)⟩, ⟨_, Tryd.underlying24, (by kernel_rfl), flds_ok (by kernel_rfl)⟩⟩
def ti26 : TI := ⟨.int .i64, 1, 8, false, [.int .i64 0], .int .i64, false⟩
theorem ti26_ok : TiOk Tryd.prog 26 ti26 := ⟨by kernel_rfl, by kernel_rfl, by kernel_rfl, ⟨_, tzr26, rfl, rfl, ones_ok rfl, (fun h => nomatch h)⟩, fun _ => rfl, by decide, (fun h => nomatch h), ⟨rfl, (fun h => nomatch h), (fun _ cs h => nomatch h)⟩, Tryd.underlying26⟩
def ti27 : TI := ⟨.slice 46, 1, 24, false, [.nils], .row (.int .u32), false⟩
theorem ti27_ok : TiOk Tryd.prog 27 ti27 := ⟨by kernel_rfl, by kernel_rfl, by kernel_rfl, ⟨_, tzr27, rfl, rfl, ones_ok rfl, (fun h => nomatch h)⟩, fun _ => rfl, by decide, (fun h => nomatch h), ⟨rfl, (fun h => nomatch h), (fun _ cs h => nomatch h)⟩, Tryd.underlying27⟩
def ti28 : TI := ⟨.slice 46, 1, 24, false, [.nils], .row (.int .u32), false⟩
theorem ti28_ok : TiOk Tryd.prog 28 ti28 := ⟨by kernel_rfl, by kernel_rfl, by kernel_rfl, ⟨_, tzr28, rfl, rfl, ones_ok rfl, (fun h => nomatch h)⟩, fun _ => rfl, by decide, (fun h => nomatch h), ⟨rfl, (fun h => nomatch h), (fun _ cs h => nomatch h)⟩, Tryd.underlying28⟩
def ti29 : TI := ⟨.strct [(0, 1, false), (1, 1, false)], 2, 48, true, [.nils, .nils], .agg [.row (.int .u32), .row (.int .u32)], false⟩
theorem ti29_ok : TiOk Tryd.prog 29 ti29 := ⟨by kernel_rfl, by kernel_rfl, by kernel_rfl, ⟨_, tzr29, rfl, rfl, ones_ok rfl, fun _ => ⟨_, rfl⟩⟩, (fun h => nomatch h), by decide, (fun h => nomatch h), ⟨rfl, fun _ => ⟨_, rfl⟩, (fun h => nomatch h)⟩, ⟨_, Tryd.underlying29, (by kernel_rfl), flds_ok (by kernel_rfl)⟩⟩
def ti30 : TI := ⟨.strct [(0, 1, false), (1, 1, false)], 2, 48, true, [.nils, .nils], .agg [.row (.int .u32), .row (.int .u32)], false⟩
theorem ti30_ok : TiOk Tryd.prog 30 ti30 := ⟨by kernel_rfl, by kernel_rfl, by kernel_rfl, ⟨_, tzr30, rfl, rfl, ones_ok rfl, fun _ => ⟨_, rfl⟩⟩, (fun h => nomatch h), by decide, (fun h => nomatch h), ⟨rfl, fun _ => ⟨_, rfl⟩, (fun h => nomatch h)⟩, ⟨_, Tryd.underlying30, (by kernel_rfl), flds_ok (by kernel_rfl)⟩⟩
def ti39 : TI := ⟨.slice 24, 1, 24, false, [.nils], .row (.agg [.str, .int .u64, .int .u64]), false⟩
theorem ti39_ok : TiOk Tryd.prog 39 ti39 := ⟨by kernel_rfl, by kernel_rfl, by kernel_rfl, ⟨_, tzr39, rfl, rfl, ones_ok rfl, (fun h => nomatch h)⟩, fun _ => rfl, by decide, (fun h => nomatch h), ⟨rfl, (fun h => nomatch h), (fun _ cs h => nomatch h)⟩, Tryd.underlying39⟩
def ti46 : TI := ⟨.int .u32, 1, 4, false, [.int .u32 0], .int .u32, false⟩
theorem ti46_ok : TiOk Tryd.prog 46 ti46 := ⟨by kernel_rfl, by kernel_rfl, by kernel_rfl, ⟨_, tzr46, rfl, rfl, ones_ok rfl, (fun h => nomatch h)⟩, fun _ => rfl, by decide, (fun h => nomatch h), ⟨rfl, (fun h => nomatch h), (fun _ cs h => nomatch h)⟩, Tryd.underlying46⟩
def ti69 : TI := ⟨.slice 22, 1, 24, false, [.nils], .row (.int .u64), false⟩
theorem ti69_ok : TiOk Tryd.prog 69 ti69 := ⟨by kernel_rfl, by kernel_rfl, by kernel_rfl, ⟨_, tzr69, rfl, rfl, ones_ok rfl, (fun h => nomatch h)⟩, fun _ => rfl, by decide, (fun h => nomatch h), ⟨rfl, (fun h => nomatch h), (fun _ cs h => nomatch h)⟩, Tryd.underlying69⟩
def ti72 : TI := ⟨.strct [(0, 1, false), (1, 1, false)], 2, 16, true, [.int .u64 0, .int .u64 0], .agg [.int .u64, .int .u64], false⟩
theorem ti72_ok : TiOk Tryd.prog 72 ti72 := ⟨by kernel_rfl, by kernel_rfl, by kernel_rfl, ⟨_, tzr72, rfl, rfl, ones_ok rfl, fun _ => ⟨_, rfl⟩⟩, (fun h => nomatch h), by decide, (fun h => nomatch h), ⟨rfl, fun _ => ⟨_, rfl⟩, (fun h => nomatch h)⟩, ⟨_, Tryd.underlying72, (by kernel_rfl), flds_ok (by kernel_rfl)⟩⟩
def ti73 : TI := ⟨.strct [(0, 1, false), (1, 1, false)], 2, 16, true, [.int .u64 0, .int .u64 0], .agg [.int .u64, .int .u64], true⟩
theorem ti73_ok : TiOk Tryd.prog 73 ti73 := ⟨by kernel_rfl, by kernel_rfl, by kernel_rfl, ⟨_, tzr73, rfl, rfl, ones_ok rfl, fun _ => ⟨_, rfl⟩⟩, (fun h => nomatch h), by decide, fun _ => struct_eq Tryd.underlying73 (by kernel_rfl) (by kernel_rfl) (by kernel_rfl) rfl, ⟨rfl, fun _ => ⟨_, rfl⟩, (fun h => nomatch h)⟩, ⟨_, Tryd.underlying73, (by kernel_rfl), flds_ok (by kernel_rfl)⟩⟩
def ti91 : TI := ⟨.int .u64, 1, 8, false, [.int .u64 0], .int .u64, false⟩
theorem ti91_ok : TiOk Tryd.prog 91 ti91 := ⟨by kernel_rfl, by kernel_rfl, by kernel_rfl, ⟨_, tzr91, rfl, rfl, ones_ok rfl, (fun h => nomatch h)⟩, fun _ => rfl, by decide, (fun h => nomatch h), ⟨rfl, (fun h => nomatch h), (fun _ cs h => nomatch h)⟩, Tryd.underlying91⟩
def ti95 : TI := ⟨.slice 3, 1, 24, false, [.nils], .row (.int .i64), false⟩
theorem ti95_ok : TiOk Tryd.prog 95 ti95 := ⟨by kernel_rfl, by kernel_rfl, by kernel_rfl, ⟨_, tzr95, rfl, rfl, ones_ok rfl, (fun h => nomatch h)⟩, fun _ => rfl, by decide, (fun h => nomatch h), ⟨rfl, (fun h => nomatch h), (fun _ cs h => nomatch h)⟩, Tryd.underlying95⟩
def ti99 : TI := ⟨.vec 8 22, 8, 64, true, List.replicate 8 (.int .u64 0), .agg (List.replicate 8 (.int .u64)), false⟩
theorem ti99_ok : TiOk Tryd.prog 99 ti99 := ⟨by kernel_rfl, by kernel_rfl, by kernel_rfl, ⟨_, tzr99, rfl, rfl, ones_ok rfl, fun _ => ⟨_, rfl⟩⟩, (fun h => nomatch h), by decide, (fun h => nomatch h), ⟨rfl, fun _ => ⟨_, rfl⟩, (fun h => nomatch h)⟩, Tryd.underlying99⟩
def ti118 : TI := ⟨.vec 16 22, 16, 128, true, List.replicate 16 (.int .u64 0), .agg (List.replicate 16 (.int .u64)), false⟩
theorem ti118_ok : TiOk Tryd.prog 118 ti118 := ⟨by kernel_rfl, by kernel_rfl, by kernel_rfl, ⟨_, tzr118, rfl, rfl, ones_ok rfl, fun _ => ⟨_, rfl⟩⟩, (fun h => nomatch h), by decide, (fun h => nomatch h), ⟨rfl, fun _ => ⟨_, rfl⟩, (fun h => nomatch h)⟩, Tryd.underlying118⟩
def ti124 : TI := ⟨.vec 9 5, 9, 9, true, List.replicate 9 (.int .u8 0), .agg (List.replicate 9 (.int .u8)), false⟩
theorem ti124_ok : TiOk Tryd.prog 124 ti124 := ⟨by kernel_rfl, by kernel_rfl, by kernel_rfl, ⟨_, tzr124, rfl, rfl, ones_ok rfl, fun _ => ⟨_, rfl⟩⟩, (fun h => nomatch h), by decide, (fun h => nomatch h), ⟨rfl, fun _ => ⟨_, rfl⟩, (fun h => nomatch h)⟩, Tryd.underlying124⟩
def ti125 : TI := ⟨.slice 5, 1, 24, false, [.nils], .row (.int .u8), false⟩
theorem ti125_ok : TiOk Tryd.prog 125 ti125 := ⟨by kernel_rfl, by kernel_rfl, by kernel_rfl, ⟨_, tzr125, rfl, rfl, ones_ok rfl, (fun h => nomatch h)⟩, fun _ => rfl, by decide, (fun h => nomatch h), ⟨rfl, (fun h => nomatch h), (fun _ cs h => nomatch h)⟩, Tryd.underlying125⟩
def ti146 : TI := ⟨.strct [(0, 1, false), (1, 1, false)], 2, 2, true, [.int .u8 0, .int .u8 0], .agg [.int .u8, .int .u8], false⟩
theorem ti146_ok : TiOk Tryd.prog 146 ti146 := ⟨by kernel_rfl, by kernel_rfl, by kernel_rfl, ⟨_, tzr146, rfl, rfl, ones_ok rfl, fun _ => ⟨_, rfl⟩⟩, (fun h => nomatch h), by decide, (fun h => nomatch h), ⟨rfl, fun _ => ⟨_, rfl⟩, (fun h => nomatch h)⟩, ⟨_, Tryd.underlying146, (by kernel_rfl), flds_ok (by kernel_rfl)⟩⟩
def ti147 : TI := ⟨.strct [(0, 1, false), (1, 1, false)], 2, 2, true, [.int .u8 0, .int .u8 0], .agg [.int .u8, .int .u8], false⟩
theorem ti147_ok : TiOk Tryd.prog 147 ti147 := ⟨by kernel_rfl, by kernel_rfl, by kernel_rfl, ⟨_, tzr147, rfl, rfl, ones_ok rfl, fun _ => ⟨_, rfl⟩⟩, (fun h => nomatch h), by decide, (fun h => nomatch h), ⟨rfl, fun _ => ⟨_, rfl⟩, (fun h => nomatch h)⟩, ⟨_, Tryd.underlying147, (by kernel_rfl), flds_ok (by kernel_rfl)⟩⟩
def ti159 : TI := ⟨.int .u8, 1, 1, false, [.int .u8 0], .int .u8, false⟩
theorem ti159_ok : TiOk Tryd.prog 159 ti159 := ⟨by kernel_rfl, by kernel_rfl, by kernel_rfl, ⟨_, tzr159, rfl, rfl, ones_ok rfl, (fun h => nomatch h)⟩, fun _ => rfl, by decide, (fun h => nomatch h), ⟨rfl, (fun h => nomatch h), (fun _ cs h => nomatch h)⟩, Tryd.underlying159⟩
def ti160 : TI := ⟨.int .u8, 1, 1, false, [.int .u8 0], .int .u8, false⟩
theorem ti160_ok : TiOk Tryd.prog 160 ti160 := ⟨by kernel_rfl, by kernel_rfl, by kernel_rfl, ⟨_, tzr160, rfl, rfl, ones_ok rfl, (fun h => nomatch h)⟩, fun _ => rfl, by decide, (fun h => nomatch h), ⟨rfl, (fun h => nomatch h), (fun _ cs h => nomatch h)⟩, Tryd.underlying160⟩
def ti163 : TI := ⟨.int .i32, 1, 4, false, [.int .i32 0], .int .i32, false⟩
theorem ti163_ok : TiOk Tryd.prog 163 ti163 := ⟨by kernel_rfl, by kernel_rfl, by kernel_rfl, ⟨_, tzr163, rfl, rfl, ones_ok rfl, (fun h => nomatch h)⟩, fun _ => rfl, by decide, (fun h => nomatch h), ⟨rfl, (fun h => nomatch h), (fun _ cs h => nomatch h)⟩, Tryd.underlying163⟩
def ti164 : TI := ⟨.int .i32, 1, 4, false, [.int .i32 0], .int .i32, false⟩
theorem ti164_ok : TiOk Tryd.prog 164 ti164 := ⟨by kernel_rfl, by kernel_rfl, by kernel_rfl, ⟨_, tzr164, rfl, rfl, ones_ok rfl, (fun h => nomatch h)⟩, fun _ => rfl, by decide, (fun h => nomatch h), ⟨rfl, (fun h => nomatch h), (fun _ cs h => nomatch h)⟩, Tryd.underlying164⟩
def tys : Ty := [(2, ti2), (3, ti3), (4, ti4), (5, ti5), (6, ti6), (7, ti7), (8, ti8), (9, ti9), (10, ti10), (11, ti11), (12, ti12), (13, ti13), (14, ti14), (21, ti21), (22, ti22), (23, ti23), (24, ti24), (26, ti26), (27, ti27), (28, ti28), (29, ti29), (30, ti30), (39, ti39), (46, ti46), (69, ti69), (72, ti72), (73, ti73), (91, ti91), (95, ti95), (99, ti99), (118, ti118), (124, ti124), (125, ti125), (146, ti146), (147, ti147), (159, ti159), (160, ti160), (163, ti163), (164, ti164)]
theorem all_nil {P : Program} : ∀ p : Nat × TI, p ∈ ([] : Ty) → TiOk P p.1 p.2 := fun p h => nomatch h
theorem all_cons {P : Program} {t : Nat} {i : TI} {ty : Ty} (h : TiOk P t i) (k : ∀ p : Nat × TI, p ∈ ty → TiOk P p.1 p.2) : ∀ p : Nat × TI, p ∈ (t, i) :: ty → TiOk P p.1 p.2 := fun p hp => by
  cases hp with
  | head => exact h
  | tail _ hp => exact k p hp
theorem tys_all : ∀ p : Nat × TI, p ∈ tys → TiOk Tryd.prog p.1 p.2 := (all_cons ti2_ok (all_cons ti3_ok (all_cons ti4_ok (all_cons ti5_ok (all_cons ti6_ok (all_cons ti7_ok (all_cons ti8_ok (all_cons ti9_ok (all_cons ti10_ok (all_cons ti11_ok (all_cons ti12_ok (all_cons ti13_ok (all_cons ti14_ok (all_cons ti21_ok (all_cons ti22_ok (all_cons ti23_ok (all_cons ti24_ok (all_cons ti26_ok (all_cons ti27_ok (all_cons ti28_ok (all_cons ti29_ok (all_cons ti30_ok (all_cons ti39_ok (all_cons ti46_ok (all_cons ti69_ok (all_cons ti72_ok (all_cons ti73_ok (all_cons ti91_ok (all_cons ti95_ok (all_cons ti99_ok (all_cons ti118_ok (all_cons ti124_ok (all_cons ti125_ok (all_cons ti146_ok (all_cons ti147_ok (all_cons ti159_ok (all_cons ti160_ok (all_cons ti163_ok (all_cons ti164_ok all_nil)))))))))))))))))))))))))))))))))))))))
/-- The types that code names. -/
def opTs : Op → List Nat
  | .alloc t | .box t _ | .build t _ | .buildSlice t _ _ | .load t _ | .store t _ _ | .binOp _ t _ _ _ | .unOp _ t _ | .makeSlice t _ _ | .slice t _ _ _ _ | .fieldAddr t _ _ | .field t _ _ | .indexAddr t _ _ | .index t _ _ => [t]
  | .convert s d _ => [s, d]
  | .call c => c.argTypes.toList
  | _ => []
def codeTs : Code → List Nat
  | .region _ ops _ => ops.toList.flatMap fun o => opTs o.op
  | .seq a b => codeTs a ++ codeTs b
  | .cond _ a b => codeTs a ++ codeTs b
  | .block _ b => codeTs b
  | .loop b => codeTs b
  | _ => []
def resTs : List ResultVar → List Nat
  | [] => []
  | .cell _ t :: rs => t :: resTs rs
  | _ :: rs => resTs rs
/-- ... with those of what lies in them. -/
def withEl (ty : Ty) (l : List Nat) : List Nat := l.flatMap fun t => match G.look ty t with | some ⟨.slice e, _, _, _, _, _, _⟩ => [t, e] | some ⟨.arr _ e, _, _, _, _, _, _⟩ => [t, e] | some ⟨.vec _ e, _, _, _, _, _, _⟩ => [t, e] | _ => [t]
def tyOf (c : Code) (rs : List ResultVar) : Ty := tys.filter fun p => memN p.1 (withEl tys (withEl tys (codeTs c ++ resTs rs)))
theorem look_mem {α : Type _} : ∀ {l : List (Nat × α)} {t : Nat} {i : α}, G.look l t = some i → (t, i) ∈ l
  | [], t, i, h => by cases h
  | (n, a) :: l, t, i, h => by
    unfold G.look at h
    split at h
    · rename_i e; cases h; rw [← Nat.eq_of_beq_eq_true e]; exact .head _
    · exact .tail _ (look_mem h)
theorem tyOf_ok (c : Code) (rs : List ResultVar) : TyOk Tryd.prog (tyOf c rs) := fun t i h => tys_all _ (List.mem_filter.1 (look_mem h)).1
/-- A function of this seat. -/
theorem spec_goL {L : List (FuncId × Intr)} {S : Tab} (hS : TabOk (B.env L) S) {f : FuncId} {fn : Func} {c : Code} (hi : lookI L f = none) (hb : (B.env L).bad f = false) (hf : Tryd.prog.funcs[f]? = some fn) (hc : fn.body = some c) (own : Bool) (nws : List Bool) (run : Lz → List FV → (FV → FV → Prop) → Prop)
    (h : ∀ A : Lz, A = std → ∀ args q, run std args q → args.length ≤ fn.ntmps ∧ wpF A (tyOf c fn.results.toList) S c (startF own args) fun ex s => match ex with | .exit _ => False | _ => retF A (tyOf c fn.results.toList) own nws fn.results.toList s q) : SpecOk (B.env L) f ⟨own, run⟩ :=
  spec_ok (tyOf_ok c _) hS hi hb hf hc own nws run h
end Go.Proofs.YtjipfimhmfhmhaaDoor.Z
