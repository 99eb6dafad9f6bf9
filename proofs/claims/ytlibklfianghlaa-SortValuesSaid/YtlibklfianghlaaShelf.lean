/- The shelf's contracts that this seat uses, laid at its dump by the kit's lay-shelf.mjs and lay-plain.mjs (wip/trimshelf.py keeps those that are named). -/
import Derived.Shelf.Strings.Builder1
import Derived.Shelf.Strings.Builder2
import Derived.Shelf.Small.Bits
import Derived.Shelf.Small.Strs
import Derived.Shelf.Strings.BuilderF
import Derived.Shelf.Strconv.Itoa0
import Derived.Shelf.Strings.Search1
import Derived.Shelf.Strings.Prefix
import Derived.Shelf.Bits.Mul64
import Derived.Shelf.Strings.Repeat
import Derived.Test.YtlibklfianghlaaProg
namespace Go.Proofs
open Go.Shelf
def Try.lays125_ren : Go.Shelf.Ren := ⟨fun | 125 => 58 | 128 => 78 | 129 => 79 | n => n, fun | 46 => 74 | 3 => 3 | 51 => 102 | 53 => 105 | 4 => 4 | 5 => 5 | 9 => 9 | n => n, fun | n => n⟩
theorem Try.lays125 : Go.Proofs.Lays.n125 Try.prog Try.lays125_ren := {
  mixed := by kernel_rfl
  f125 := Try.func58.trans (congrArg some (by kernel_rfl))
  f128 := Try.func78.trans (congrArg some (by kernel_rfl))
  f129 := Try.func79.trans (congrArg some (by kernel_rfl))
  t3 := Try.underlying3
  a3 := Try.isAgg3
  z3 := Try.sizeOf3
  v3 := Try.zeroValue3
  t4 := Try.underlying4
  a4 := Try.isAgg4
  z4 := Try.sizeOf4
  v4 := Try.zeroValue4
  t5 := Try.underlying5
  a5 := Try.isAgg5
  z5 := Try.sizeOf5
  v5 := Try.zeroValue5
  t9 := Try.underlying9
  a9 := Try.isAgg9
  z9 := Try.sizeOf9
  v9 := Try.zeroValue9
  t46 := Try.underlying74
  a46 := Try.isAgg74
  z46 := Try.sizeOf74
  v46 := Try.zeroValue74
  t51 := Try.underlying102
  a51 := Try.isAgg102
  z51 := Try.sizeOf102
  v51 := Try.zeroValue102
  t53 := Try.underlying105
  a53 := Try.isAgg105
  z53 := Try.sizeOf105
  v53 := Try.zeroValue105 }
theorem Try.bits_Len (x : Int) (w : World) (h0 : 0 ≤ x) (h1 : x ≤ 18446744073709551615) :
    Calls Try.prog 58 #[.int .u64 x] w fun e w' => e = .returned (.int .i64 (Lib.bitLen x.toNat)) ∧ w' = w := Any.bits_Len Try.lays125 x w h0 h1
def Try.lays106_ren : Go.Shelf.Ren := ⟨fun | 106 => 41 | 213 => 59 | 265 => 80 | n => n, fun | 9 => 9 | 3 => 3 | n => n, fun | n => n⟩
theorem Try.lays106 : Go.Proofs.Lays.n106 Try.prog Try.lays106_ren := {
  mixed := by kernel_rfl
  f106 := Try.func41.trans (congrArg some (by kernel_rfl))
  f213 := Try.func59.trans (congrArg some (by kernel_rfl))
  f265 := Try.func80.trans (congrArg some (by kernel_rfl))
  t3 := Try.underlying3
  a3 := Try.isAgg3
  z3 := Try.sizeOf3
  v3 := Try.zeroValue3
  t9 := Try.underlying9
  a9 := Try.isAgg9
  z9 := Try.sizeOf9
  v9 := Try.zeroValue9 }
theorem Try.strings_Compare (a b : ByteArray) (w : World) :
    Calls Try.prog 41 #[.string a, .string b] w fun e w' => e = .returned (.int .i64 (Lib.compareBytes a.data.toList b.data.toList)) ∧ w' = w := Any.strings_Compare Try.lays106 a b w
def Try.lays137_ren : Go.Shelf.Ren := ⟨fun | 137 => 26 | 217 => 50 | 266 => 67 | n => n, fun | 9 => 9 | 5 => 5 | 3 => 3 | n => n, fun | n => n⟩
theorem Try.lays137 : Go.Proofs.Lays.n137 Try.prog Try.lays137_ren := {
  mixed := by kernel_rfl
  f137 := Try.func26.trans (congrArg some (by kernel_rfl))
  f217 := Try.func50.trans (congrArg some (by kernel_rfl))
  f266 := Try.func67.trans (congrArg some (by kernel_rfl))
  t3 := Try.underlying3
  a3 := Try.isAgg3
  z3 := Try.sizeOf3
  v3 := Try.zeroValue3
  t5 := Try.underlying5
  a5 := Try.isAgg5
  z5 := Try.sizeOf5
  v5 := Try.zeroValue5
  t9 := Try.underlying9
  a9 := Try.isAgg9
  z9 := Try.sizeOf9
  v9 := Try.zeroValue9 }
theorem Try.strings_IndexByte (s : ByteArray) (c : Int) (w : World) :
    Calls Try.prog 26 #[.string s, .int .u8 c] w fun e w' => e = .returned (.int .i64 (Lib.indexByte s.data.toList c.toNat.toUInt8)) ∧ w' = w := Any.strings_IndexByte Try.lays137 s c w
def Try.lays105_ren : Go.Shelf.Ren := ⟨fun | 105 => 25 | 212 => 44 | 99 => 45 | 165 => 46 | 166 => 47 | 170 => 48 | 169 => 49 | 263 => 62 | 264 => 63 | 206 => 64 | 240 => 65 | 241 => 66 | 276 => 81 | 277 => 82 | n => n, fun | 9 => 9 | 3 => 3 | 4 => 4 | 20 => 20 | 0 => 0 | 46 => 74 | 109 => 75 | 5 => 5 | 72 => 81 | 76 => 85 | 51 => 102 | 146 => 103 | 53 => 105 | 148 => 106 | 70 => 78 | 37 => 79 | 75 => 84 | 127 => 108 | 164 => 120 | 80 => 88 | n => n, fun | n => n⟩
theorem Try.lays105 : Go.Proofs.Lays.n105 Try.prog Try.lays105_ren := {
  mixed := by kernel_rfl
  f99 := Try.func45.trans (congrArg some (by kernel_rfl))
  f105 := Try.func25.trans (congrArg some (by kernel_rfl))
  f165 := Try.func46.trans (congrArg some (by kernel_rfl))
  f166 := Try.func47.trans (congrArg some (by kernel_rfl))
  f169 := Try.func49.trans (congrArg some (by kernel_rfl))
  f170 := Try.func48.trans (congrArg some (by kernel_rfl))
  f206 := Try.func64.trans (congrArg some (by kernel_rfl))
  f212 := Try.func44.trans (congrArg some (by kernel_rfl))
  f240 := Try.func65.trans (congrArg some (by kernel_rfl))
  f241 := Try.func66.trans (congrArg some (by kernel_rfl))
  f263 := Try.func62.trans (congrArg some (by kernel_rfl))
  f264 := Try.func63.trans (congrArg some (by kernel_rfl))
  f276 := Try.func81.trans (congrArg some (by kernel_rfl))
  f277 := Try.func82.trans (congrArg some (by kernel_rfl))
  t0 := Try.underlying0
  a0 := Try.isAgg0
  z0 := Try.sizeOf0
  v0 := Try.zeroValue0
  t3 := Try.underlying3
  a3 := Try.isAgg3
  z3 := Try.sizeOf3
  v3 := Try.zeroValue3
  t4 := Try.underlying4
  a4 := Try.isAgg4
  z4 := Try.sizeOf4
  v4 := Try.zeroValue4
  t5 := Try.underlying5
  a5 := Try.isAgg5
  z5 := Try.sizeOf5
  v5 := Try.zeroValue5
  t9 := Try.underlying9
  a9 := Try.isAgg9
  z9 := Try.sizeOf9
  v9 := Try.zeroValue9
  t20 := Try.underlying20
  a20 := Try.isAgg20
  z20 := Try.sizeOf20
  v20 := Try.zeroValue20
  t37 := Try.underlying79
  a37 := Try.isAgg79
  z37 := Try.sizeOf79
  v37 := Try.zeroValue79
  t46 := Try.underlying74
  a46 := Try.isAgg74
  z46 := Try.sizeOf74
  v46 := Try.zeroValue74
  t51 := Try.underlying102
  a51 := Try.isAgg102
  z51 := Try.sizeOf102
  v51 := Try.zeroValue102
  t53 := Try.underlying105
  a53 := Try.isAgg105
  z53 := Try.sizeOf105
  v53 := Try.zeroValue105
  t70 := Try.underlying78
  a70 := Try.isAgg78
  z70 := Try.sizeOf78
  v70 := Try.zeroValue78
  t72 := Try.underlying81
  a72 := Try.isAgg81
  z72 := Try.sizeOf81
  v72 := Try.zeroValue81
  t75 := Try.underlying84
  a75 := Try.isAgg84
  z75 := Try.sizeOf84
  v75 := Try.zeroValue84
  t76 := Try.underlying85
  a76 := Try.isAgg85
  z76 := Try.sizeOf85
  v76 := Try.zeroValue85
  t109 := Try.underlying75
  a109 := Try.isAgg75
  z109 := Try.sizeOf75
  v109 := Try.zeroValue75
  t127 := Try.underlying108
  a127 := Try.isAgg108
  z127 := Try.sizeOf108
  v127 := Try.zeroValue108
  t146 := Try.underlying103
  a146 := Try.isAgg103
  z146 := Try.sizeOf103
  v146 := Try.zeroValue103
  t148 := Try.underlying106
  a148 := Try.isAgg106
  z148 := Try.sizeOf106
  v148 := Try.zeroValue106
  t164 := Try.underlying120
  a164 := Try.isAgg120
  z164 := Try.sizeOf120
  v164 := Try.zeroValue120 }
theorem Try.Builder_Extra_105 : Builder.Extra Try.prog Try.lays105_ren := {
  sizeBuilder := by kernel_rfl
  liesBuilder := by kernel_rfl
  t5 := Try.underlying5
  a5 := Try.isAgg5
  z5 := Try.sizeOf5
  v5 := Try.zeroValue5
  infoByte := by kernel_rfl
  cellsByte := by kernel_rfl
  sizeByte := by kernel_rfl
  neB5 := by decide }
open Go.RowKit Go.Lib in
theorem Try.strings_Repeat (s : ByteArray) (c : Nat) (w : World) (hc : c ≤ 9223372036854775807) (hlen : s.size * c ≤ 140737488355328) :
    Calls Try.prog 25 #[.string s, .int .i64 c] w fun e w' => e = .returned (.string ⟨(Lib.repeatL s.data.toList c).toArray⟩) ∧ Below w.heap.size w w' := Any.strings_Repeat Try.lays105 Try.Builder_Extra_105 s c w hc hlen
end Go.Proofs
