/- What the kinds of the program's types are, for the evaluator. Conditions: none. -/
import Derived.Test.YtpohfmcpfkbabaaGreatEe
import Derived.Test.YtpohfmcpfkbabaaGreatProg
import Derived.KernelRfl
import Derived.Test.YtpohfmcpfkbabaaGreatEf
set_option linter.unusedSimpArgs false
set_option linter.unusedVariables false
set_option maxRecDepth 100000
namespace Go.Ab.R
open Go Go.Proofs
theorem kd3 : kd Tryz.prog 3 = some (.int .i64) := by kernel_rfl
theorem kd5 : kd Tryz.prog 5 = some (.int .u8) := by kernel_rfl
theorem kd9 : kd Tryz.prog 9 = some (.str) := by kernel_rfl
theorem kd20 : kd Tryz.prog 20 = some (.iface) := by kernel_rfl
theorem kd22 : kd Tryz.prog 22 = some (.slice ⟨1, false, 24, [.nils], false⟩) := by kernel_rfl
theorem kd24 : kd Tryz.prog 24 = some (.pointer) := by kernel_rfl
theorem kd29 : kd Tryz.prog 29 = some (.struct [⟨0, 1, false⟩, ⟨1, 1, false⟩] (some [true, true])) := by kernel_rfl
theorem kd30 : kd Tryz.prog 30 = some (.slice ⟨1, false, 8, [.int .i64 0], false⟩) := by kernel_rfl
theorem kd32 : kd Tryz.prog 32 = some (.struct [⟨0, 1, false⟩, ⟨1, 1, false⟩] none) := by kernel_rfl
theorem kd33 : kd Tryz.prog 33 = some (.slice ⟨1, false, 1, [.int .u8 0], true⟩) := by kernel_rfl
theorem kd35 : kd Tryz.prog 35 = some (.struct [⟨0, 1, false⟩, ⟨1, 1, false⟩, ⟨2, 2, true⟩, ⟨4, 1, false⟩] none) := by kernel_rfl
theorem kd36 : kd Tryz.prog 36 = some (.array 2 ⟨1, false, 8, [.int .i64 0], false⟩) := by kernel_rfl
theorem kd41 : kd Tryz.prog 41 = some (.slice ⟨16, true, 192, [.int .i64 0, .int .i64 0, .int .i64 0, .int .i64 0, .int .i64 0, .int .i64 0, .bool false, .int .i64 0, .int .i64 0, .int .i64 0, .nils, .int .i64 0, .int .i64 0, .nils, .nils, .nils], false⟩) := by kernel_rfl
theorem kd42 : kd Tryz.prog 42 = some (.slice ⟨2, true, 16, [.int .i64 0, .int .i64 0], false⟩) := by kernel_rfl
theorem kd44 : kd Tryz.prog 44 = some (.struct [⟨0, 1, false⟩, ⟨1, 2, true⟩, ⟨3, 1, false⟩, ⟨4, 5, true⟩, ⟨9, 1, false⟩, ⟨10, 1, false⟩, ⟨11, 1, false⟩] none) := by kernel_rfl
theorem kd46 : kd Tryz.prog 46 = some (.slice ⟨4, true, 48, [.int .i64 0, .int .i64 0, .int .i64 0, .nils], false⟩) := by kernel_rfl
theorem kd50 : kd Tryz.prog 50 = some (.struct [⟨0, 1, false⟩, ⟨1, 1, false⟩] (some [true, true])) := by kernel_rfl
theorem kd52 : kd Tryz.prog 52 = some (.struct [⟨0, 1, false⟩, ⟨1, 1, false⟩, ⟨2, 1, false⟩, ⟨3, 1, false⟩] none) := by kernel_rfl
theorem kd55 : kd Tryz.prog 55 = some (.map .int (.nilp)) := by kernel_rfl
theorem kd56 : kd Tryz.prog 56 = some (.slice ⟨4, true, 48, [.int .i64 0, .int .i64 0, .int .i64 0, .nils], false⟩) := by kernel_rfl
theorem kd58 : kd Tryz.prog 58 = some (.struct [⟨0, 1, false⟩, ⟨1, 1, false⟩, ⟨2, 1, false⟩, ⟨3, 1, false⟩, ⟨4, 5, true⟩, ⟨9, 2, true⟩, ⟨11, 1, false⟩, ⟨12, 1, false⟩, ⟨13, 1, false⟩, ⟨14, 2, true⟩, ⟨16, 12, true⟩] none) := by kernel_rfl
theorem kd61 : kd Tryz.prog 61 = some (.struct [⟨0, 1, false⟩, ⟨1, 2, true⟩, ⟨3, 5, true⟩, ⟨8, 1, false⟩, ⟨9, 2, true⟩] none) := by kernel_rfl
theorem kd65 : kd Tryz.prog 65 = some (.slice ⟨20, true, 240, [.int .i64 0, .int .i64 0, .int .i64 0, .int .i64 0, .int .i64 0, .int .i64 0, .int .i64 0, .int .i64 0, .int .i64 0, .bool false, .int .i64 0, .int .i64 0, .int .i64 0, .nils, .int .i64 0, .int .i64 0, .nils, .nils, .nils, .nils], false⟩) := by kernel_rfl
theorem kd66 : kd Tryz.prog 66 = some (.pointer) := by kernel_rfl
theorem kd71 : kd Tryz.prog 71 = some (.struct [⟨0, 1, false⟩, ⟨1, 1, false⟩, ⟨2, 1, false⟩, ⟨3, 1, false⟩, ⟨4, 1, false⟩, ⟨5, 1, false⟩, ⟨6, 1, false⟩, ⟨7, 1, false⟩, ⟨8, 1, false⟩, ⟨9, 1, false⟩, ⟨10, 1, false⟩, ⟨11, 5, true⟩] none) := by kernel_rfl
theorem kd73 : kd Tryz.prog 73 = some (.struct [⟨0, 1, false⟩, ⟨1, 1, false⟩, ⟨2, 1, false⟩, ⟨3, 16, true⟩, ⟨19, 1, false⟩] none) := by kernel_rfl
theorem kd79 : kd Tryz.prog 79 = some (.slice ⟨4, true, 32, [.int .i64 0, .int .i64 0, .int .i64 0, .int .i64 0], false⟩) := by kernel_rfl
theorem kd80 : kd Tryz.prog 80 = some (.pointer) := by kernel_rfl
theorem kd82 : kd Tryz.prog 82 = some (.slice ⟨1, false, 8, [.nilp], false⟩) := by kernel_rfl
theorem kd83 : kd Tryz.prog 83 = some (.slice ⟨8, true, 128, [.int .i64 0, .int .i64 0, .int .i64 0, .int .i64 0, .nils, .nils, .nils, .nils], false⟩) := by kernel_rfl
theorem kd84 : kd Tryz.prog 84 = some (.map .int (.agg [.int .i64 0, .int .i64 0, .int .i64 0, .nils])) := by kernel_rfl
theorem kd85 : kd Tryz.prog 85 = some (.map .int (.int .i64 0)) := by kernel_rfl
theorem kd86 : kd Tryz.prog 86 = some (.slice ⟨2, true, 16, [.int .i64 0, .int .i64 0], false⟩) := by kernel_rfl
theorem kd88 : kd Tryz.prog 88 = some (.struct [⟨0, 1, false⟩, ⟨1, 1, false⟩, ⟨2, 1, false⟩, ⟨3, 1, false⟩, ⟨4, 1, false⟩, ⟨5, 1, false⟩, ⟨6, 1, false⟩, ⟨7, 1, false⟩, ⟨8, 1, false⟩] none) := by kernel_rfl
theorem kd91 : kd Tryz.prog 91 = some (.struct [⟨0, 1, false⟩, ⟨1, 1, false⟩, ⟨2, 1, false⟩, ⟨3, 1, false⟩] (some [true, true, true, true])) := by kernel_rfl
theorem kd103 : kd Tryz.prog 103 = some (.slice ⟨7, true, 56, [.int .i64 0, .int .i64 0, .int .i64 0, .int .i64 0, .int .i64 0, .int .i64 0, .bool false], false⟩) := by kernel_rfl
theorem kd112 : kd Tryz.prog 112 = some (.struct [⟨0, 2, true⟩, ⟨2, 1, false⟩, ⟨3, 1, false⟩] none) := by kernel_rfl
theorem kd113 : kd Tryz.prog 113 = some (.map .bool (.nils)) := by kernel_rfl
theorem kd115 : kd Tryz.prog 115 = some (.struct [⟨0, 1, false⟩, ⟨1, 1, false⟩, ⟨2, 2, true⟩, ⟨4, 2, true⟩, ⟨6, 1, false⟩, ⟨7, 1, false⟩, ⟨8, 1, false⟩, ⟨9, 1, false⟩, ⟨10, 1, false⟩] none) := by kernel_rfl
theorem kd121 : kd Tryz.prog 121 = some (.int .u64) := by kernel_rfl
theorem kd128 : kd Tryz.prog 128 = some (.pointer) := by kernel_rfl
theorem kd129 : kd Tryz.prog 129 = some (.array 16 ⟨1, false, 8, [.nilp], false⟩) := by kernel_rfl
theorem kd130 : kd Tryz.prog 130 = some (.slice ⟨4, true, 48, [.int .i64 0, .int .i64 0, .int .i64 0, .nils], false⟩) := by kernel_rfl
theorem kd132 : kd Tryz.prog 132 = some (.struct [⟨0, 1, false⟩, ⟨1, 1, false⟩, ⟨2, 1, false⟩, ⟨3, 5, true⟩, ⟨8, 1, false⟩, ⟨9, 16, true⟩, ⟨25, 1, false⟩, ⟨26, 1, false⟩, ⟨27, 2, true⟩, ⟨29, 1, false⟩, ⟨30, 1, false⟩, ⟨31, 1, false⟩, ⟨32, 1, false⟩] none) := by kernel_rfl
theorem kd135 : kd Tryz.prog 135 = some (.struct [⟨0, 1, false⟩, ⟨1, 2, true⟩, ⟨3, 2, true⟩, ⟨5, 1, false⟩, ⟨6, 1, false⟩, ⟨7, 1, false⟩, ⟨8, 1, false⟩, ⟨9, 1, false⟩, ⟨10, 1, false⟩, ⟨11, 1, false⟩] none) := by kernel_rfl
theorem kd141 : kd Tryz.prog 141 = some (.struct [⟨0, 2, true⟩, ⟨2, 5, true⟩, ⟨7, 1, false⟩] none) := by kernel_rfl
theorem kd144 : kd Tryz.prog 144 = some (.struct [⟨0, 1, false⟩, ⟨1, 1, false⟩] (some [true, true])) := by kernel_rfl
theorem kd150 : kd Tryz.prog 150 = some (.struct [⟨0, 1, false⟩, ⟨1, 1, false⟩, ⟨2, 1, false⟩] none) := by kernel_rfl
theorem kd156 : kd Tryz.prog 156 = some (.slice ⟨1, false, 24, [.nils], false⟩) := by kernel_rfl
theorem kd161 : kd Tryz.prog 161 = some (.struct [⟨0, 1, false⟩, ⟨1, 1, false⟩, ⟨2, 1, false⟩, ⟨3, 1, false⟩, ⟨4, 1, false⟩, ⟨5, 1, false⟩, ⟨6, 1, false⟩] (some [true, true, true, true, true, true, false])) := by kernel_rfl
theorem kd172 : kd Tryz.prog 172 = some (.struct [⟨0, 1, false⟩, ⟨1, 1, false⟩, ⟨2, 1, false⟩, ⟨3, 1, false⟩, ⟨4, 1, false⟩, ⟨5, 1, false⟩, ⟨6, 1, false⟩] none) := by kernel_rfl
theorem kd182 : kd Tryz.prog 182 = some (.struct [⟨0, 1, false⟩, ⟨1, 1, false⟩, ⟨2, 1, false⟩, ⟨3, 1, false⟩, ⟨4, 1, false⟩] none) := by kernel_rfl
theorem kd186 : kd Tryz.prog 186 = some (.struct [⟨0, 1, false⟩, ⟨1, 1, false⟩, ⟨2, 1, false⟩, ⟨3, 1, false⟩, ⟨4, 1, false⟩, ⟨5, 1, false⟩, ⟨6, 1, false⟩] none) := by kernel_rfl
theorem kd191 : kd Tryz.prog 191 = some (.struct [⟨0, 2, true⟩, ⟨2, 1, false⟩, ⟨3, 1, false⟩] none) := by kernel_rfl
theorem kd194 : kd Tryz.prog 194 = some (.array 16 ⟨1, false, 8, [.int .i64 0], false⟩) := by kernel_rfl
theorem kd199 : kd Tryz.prog 199 = some (.int .u64) := by kernel_rfl
theorem kd202 : kd Tryz.prog 202 = some (.struct [⟨0, 1, false⟩, ⟨1, 1, false⟩, ⟨2, 1, false⟩] none) := by kernel_rfl
theorem kd224 : kd Tryz.prog 224 = some (.int .u32) := by kernel_rfl
theorem kd236 : kd Tryz.prog 236 = some (.struct [⟨0, 1, false⟩, ⟨1, 1, false⟩] none) := by kernel_rfl
theorem kd243 : kd Tryz.prog 243 = some (.int .u64) := by kernel_rfl
theorem kd251 : kd Tryz.prog 251 = some (.struct [] (some [])) := by kernel_rfl
theorem sz3 : szOf Tryz.prog 3 = some (1, false) := by kernel_rfl
theorem sz4 : szOf Tryz.prog 4 = some (1, false) := by kernel_rfl
theorem sz5 : szOf Tryz.prog 5 = some (1, false) := by kernel_rfl
theorem sz24 : szOf Tryz.prog 24 = some (1, false) := by kernel_rfl
theorem sz29 : szOf Tryz.prog 29 = some (2, true) := by kernel_rfl
theorem sz30 : szOf Tryz.prog 30 = some (1, false) := by kernel_rfl
theorem sz32 : szOf Tryz.prog 32 = some (2, true) := by kernel_rfl
theorem sz33 : szOf Tryz.prog 33 = some (1, false) := by kernel_rfl
theorem sz35 : szOf Tryz.prog 35 = some (5, true) := by kernel_rfl
theorem sz36 : szOf Tryz.prog 36 = some (2, true) := by kernel_rfl
theorem sz41 : szOf Tryz.prog 41 = some (1, false) := by kernel_rfl
theorem sz42 : szOf Tryz.prog 42 = some (1, false) := by kernel_rfl
theorem sz44 : szOf Tryz.prog 44 = some (12, true) := by kernel_rfl
theorem sz46 : szOf Tryz.prog 46 = some (1, false) := by kernel_rfl
theorem sz50 : szOf Tryz.prog 50 = some (2, true) := by kernel_rfl
theorem sz52 : szOf Tryz.prog 52 = some (4, true) := by kernel_rfl
theorem sz53 : szOf Tryz.prog 53 = some (1, false) := by kernel_rfl
theorem sz54 : szOf Tryz.prog 54 = some (1, false) := by kernel_rfl
theorem sz55 : szOf Tryz.prog 55 = some (1, false) := by kernel_rfl
theorem sz56 : szOf Tryz.prog 56 = some (1, false) := by kernel_rfl
theorem sz61 : szOf Tryz.prog 61 = some (11, true) := by kernel_rfl
theorem sz71 : szOf Tryz.prog 71 = some (16, true) := by kernel_rfl
theorem sz73 : szOf Tryz.prog 73 = some (20, true) := by kernel_rfl
theorem sz82 : szOf Tryz.prog 82 = some (1, false) := by kernel_rfl
theorem sz83 : szOf Tryz.prog 83 = some (1, false) := by kernel_rfl
theorem sz84 : szOf Tryz.prog 84 = some (1, false) := by kernel_rfl
theorem sz85 : szOf Tryz.prog 85 = some (1, false) := by kernel_rfl
theorem sz86 : szOf Tryz.prog 86 = some (1, false) := by kernel_rfl
theorem sz91 : szOf Tryz.prog 91 = some (4, true) := by kernel_rfl
theorem sz112 : szOf Tryz.prog 112 = some (4, true) := by kernel_rfl
theorem sz113 : szOf Tryz.prog 113 = some (1, false) := by kernel_rfl
theorem sz121 : szOf Tryz.prog 121 = some (1, false) := by kernel_rfl
theorem sz122 : szOf Tryz.prog 122 = some (1, false) := by kernel_rfl
theorem sz125 : szOf Tryz.prog 125 = some (1, false) := by kernel_rfl
theorem sz128 : szOf Tryz.prog 128 = some (1, false) := by kernel_rfl
theorem sz129 : szOf Tryz.prog 129 = some (16, true) := by kernel_rfl
theorem sz130 : szOf Tryz.prog 130 = some (1, false) := by kernel_rfl
theorem sz141 : szOf Tryz.prog 141 = some (8, true) := by kernel_rfl
theorem sz150 : szOf Tryz.prog 150 = some (3, true) := by kernel_rfl
theorem sz161 : szOf Tryz.prog 161 = some (7, true) := by kernel_rfl
theorem sz191 : szOf Tryz.prog 191 = some (4, true) := by kernel_rfl
theorem sz194 : szOf Tryz.prog 194 = some (16, true) := by kernel_rfl
theorem sz213 : szOf Tryz.prog 213 = some (1, false) := by kernel_rfl
theorem sz243 : szOf Tryz.prog 243 = some (1, false) := by kernel_rfl
theorem ze3 : zeroV Tryz.prog 3 = some (.int .i64 0) := by kernel_rfl
theorem ze29 : zeroV Tryz.prog 29 = some (.agg [.int .i64 0, .int .i64 0]) := by kernel_rfl
theorem ze32 : zeroV Tryz.prog 32 = some (.agg [.nils, .nils]) := by kernel_rfl
theorem ze33 : zeroV Tryz.prog 33 = some (.nils) := by kernel_rfl
theorem ze35 : zeroV Tryz.prog 35 = some (.agg [.int .i64 0, .int .i64 0, .nils, .nils, .nils]) := by kernel_rfl
theorem ze36 : zeroV Tryz.prog 36 = some (.agg [.int .i64 0, .int .i64 0]) := by kernel_rfl
theorem ze44 : zeroV Tryz.prog 44 = some (.agg [.bool false, .int .i64 0, .int .i64 0, .bool false, .int .i64 0, .int .i64 0, .nils, .nils, .nils, .int .i64 0, .nils, .nils]) := by kernel_rfl
theorem ze50 : zeroV Tryz.prog 50 = some (.agg [.int .i64 0, .int .i64 0]) := by kernel_rfl
theorem ze52 : zeroV Tryz.prog 52 = some (.agg [.int .i64 0, .int .i64 0, .int .i64 0, .nils]) := by kernel_rfl
theorem ze58 : zeroV Tryz.prog 58 = some (.agg [.nilp, .int .i64 0, .int .i64 0, .nilp, .int .i64 0, .int .i64 0, .nils, .nils, .nils, .nils, .nils, .nilm, .nils, .int .i64 0, .int .i64 0, .int .i64 0, .bool false, .int .i64 0, .int .i64 0, .bool false, .int .i64 0, .int .i64 0, .nils, .nils, .nils, .int .i64 0, .nils, .nils]) := by kernel_rfl
theorem ze71 : zeroV Tryz.prog 71 = some (.agg [.int .i64 0, .int .i64 0, .int .i64 0, .int .i64 0, .int .i64 0, .int .i64 0, .bool false, .int .i64 0, .int .i64 0, .int .i64 0, .nils, .int .i64 0, .int .i64 0, .nils, .nils, .nils]) := by kernel_rfl
theorem ze88 : zeroV Tryz.prog 88 = some (.agg [.nils, .nils, .nils, .nilm, .int .i64 0, .nilm, .nils, .int .i64 0, .bool false]) := by kernel_rfl
theorem ze91 : zeroV Tryz.prog 91 = some (.agg [.int .i64 0, .int .i64 0, .int .i64 0, .int .i64 0]) := by kernel_rfl
theorem ze112 : zeroV Tryz.prog 112 = some (.agg [.int .i64 0, .int .i64 0, .int .i64 0, .nils]) := by kernel_rfl
theorem ze115 : zeroV Tryz.prog 115 = some (.agg [.int .i64 0, .int .i64 0, .int .i64 0, .int .i64 0, .nils, .nils, .int .i64 0, .int .i64 0, .int .i64 0, .int .i64 0, .nilm]) := by kernel_rfl
theorem ze121 : zeroV Tryz.prog 121 = some (.int .u64 0) := by kernel_rfl
theorem ze129 : zeroV Tryz.prog 129 = some (.agg [.nilp, .nilp, .nilp, .nilp, .nilp, .nilp, .nilp, .nilp, .nilp, .nilp, .nilp, .nilp, .nilp, .nilp, .nilp, .nilp]) := by kernel_rfl
theorem ze132 : zeroV Tryz.prog 132 = some (.agg [.int .i64 0, .nilp, .nilp, .int .i64 0, .int .i64 0, .nils, .nils, .nils, .int .i64 0, .nilp, .nilp, .nilp, .nilp, .nilp, .nilp, .nilp, .nilp, .nilp, .nilp, .nilp, .nilp, .nilp, .nilp, .nilp, .nilp, .nils, .int .i64 0, .int .i64 0, .int .i64 0, .bool false, .int .i64 0, .nils, .nils]) := by kernel_rfl
theorem ze135 : zeroV Tryz.prog 135 = some (.agg [.int .i64 0, .int .i64 0, .int .i64 0, .nils, .nils, .int .i64 0, .int .i64 0, .int .i64 0, .int .i64 0, .int .i64 0, .nils, .nils]) := by kernel_rfl
theorem ze141 : zeroV Tryz.prog 141 = some (.agg [.int .i64 0, .int .i64 0, .int .i64 0, .int .i64 0, .nils, .nils, .nils, .nils]) := by kernel_rfl
theorem ze144 : zeroV Tryz.prog 144 = some (.agg [.int .i64 0, .int .i64 0]) := by kernel_rfl
theorem ze150 : zeroV Tryz.prog 150 = some (.agg [.nils, .int .i64 0, .int .i64 0]) := by kernel_rfl
theorem ze161 : zeroV Tryz.prog 161 = some (.agg [.int .i64 0, .int .i64 0, .int .i64 0, .int .i64 0, .int .i64 0, .int .i64 0, .bool false]) := by kernel_rfl
theorem ze172 : zeroV Tryz.prog 172 = some (.agg [.int .i64 0, .int .i64 0, .int .i64 0, .int .i64 0, .bool false, .nils, .int .i64 0]) := by kernel_rfl
theorem ze182 : zeroV Tryz.prog 182 = some (.agg [.int .i64 0, .int .i64 0, .nils, .int .i64 0, .int .i64 0]) := by kernel_rfl
theorem ze186 : zeroV Tryz.prog 186 = some (.agg [.int .i64 0, .int .i64 0, .int .i64 0, .int .i64 0, .bool false, .nils, .int .i64 0]) := by kernel_rfl
theorem ze191 : zeroV Tryz.prog 191 = some (.agg [.int .i64 0, .int .i64 0, .int .i64 0, .nils]) := by kernel_rfl
theorem ze194 : zeroV Tryz.prog 194 = some (.agg [.int .i64 0, .int .i64 0, .int .i64 0, .int .i64 0, .int .i64 0, .int .i64 0, .int .i64 0, .int .i64 0, .int .i64 0, .int .i64 0, .int .i64 0, .int .i64 0, .int .i64 0, .int .i64 0, .int .i64 0, .int .i64 0]) := by kernel_rfl
theorem ze202 : zeroV Tryz.prog 202 = some (.agg [.nils, .int .i64 0, .bool false]) := by kernel_rfl
theorem ze236 : zeroV Tryz.prog 236 = some (.agg [.nils, .bool false]) := by kernel_rfl
theorem ze243 : zeroV Tryz.prog 243 = some (.int .u64 0) := by kernel_rfl
theorem ze251 : zeroV Tryz.prog 251 = some (.agg []) := by kernel_rfl
end Go.Ab.R

/- What stands in for functions that are not evaluated: sorting, the keys of a map, the range over a map in the raft's advance. Conditions: none. -/
namespace Go.Ab
def intOf : V → Option Int
  | .int .i64 n => some n
  | _ => none
def intsOf : List V → Option (List Int)
  | [] => some []
  | v :: l => match intOf v, intsOf l with
    | some n, some ns => some (n :: ns)
    | _, _ => none
def sortI (l : List Int) : List Int := l.mergeSort fun x y => decide (x ≤ y)
/-- slices.Sort of whole numbers -/
def sortP : List V → Id → Mem → Option (V × Mem)
  | [.nils], _, M => some (.tup [], M)
  | [.psl [] 0 _], _, M => some (.tup [], M)
  | [.sl i off len sz _], _, M => if len = 0 then some (.tup [], M) else match M i with
    | some (.cells cs) => if sz = 1 ∧ 0 < len ∧ off + len ≤ cs.length ∧ len ≤ mostLen then (match intsOf ((cs.drop off).take len) with
        | some l => some (.tup [], M.set i (.cells (splice cs off ((sortI l).map (V.int .i64)))))
        | none => none) else none
    | _ => none
  | _, _, _ => none
/-- the members: the keys of the peers, sorted -/
def membersP : List V → Id → Mem → Option (V × Mem)
  | [.ptr i 0], _, M => match M i with
    | some (.cells cs) => match cs[11]? with
      | some m => match entriesV M m with
        | some [] => some (.nils, M)
        | _ => none
      | none => none
    | _ => none
  | _, _, _ => none
/-- numbers of bytes -/
def natOf : V → Option Nat
  | .int .u8 n => if 0 ≤ n ∧ n < 256 then some n.toNat else none
  | _ => none
def natsOf : List V → Option (List Nat)
  | [] => some []
  | v :: l => match natOf v, natsOf l with
    | some n, some ns => some (n :: ns)
    | _, _ => none
/-- is a first byte one of a code? -/
def goodB (f : Nat) : Prop := f < 32 ∧ f % 16 ≤ 8 ∧ (0 < f % 16 ∨ f < 16)
instance (f) : Decidable (goodB f) := by unfold goodB; infer_instance
/-- one byte more -/
def stepB (n : Int) (c : Nat) : Int := IntKind.wrap .u64 ((BitVec.ofInt 64 (IntKind.wrap .u64 (n * 256)) ||| BitVec.ofInt 64 (IntKind.wrap .u64 c)).toNat : Int)
/-- what a reader reads: a number, and how many bytes it takes -/
def decB (most : Int) : List Nat → Option (Int × Nat)
  | [] => none
  | f :: r => if goodB f ∧ f % 16 ≤ r.length ∧ (0 < f % 16 → r[0]? ≠ some 0) ∧ f < 16 ∧ (r.take (f % 16)).foldl stepB 0 ≤ most then some ((r.take (f % 16)).foldl stepB 0, f % 16 + 1) else none
/-- a number, read -/
def numP : List V → Id → Mem → Option (V × Mem)
  | [.ptr r 0, .int .u64 most], _, M => match M r with
    | some (.cells [left, .bool bad]) =>
      if bad = true then (if left.one = true then some (.int .u64 0, M.set r (.cells [left, .bool true])) else none) else match left with
        | .nils => some (.int .u64 0, M.set r (.cells [left, .bool true]))
        | .psl cs len cp => match natsOf cs with
          | some bs => if len = bs.length then (match decB most bs with
              | some (n, k) => some (.int .u64 n, M.set r (.cells [.psl (cs.drop k) (len - k) cp, .bool false]))
              | none => some (.int .u64 0, M.set r (.cells [left, .bool true]))) else none
          | none => none
        | _ => none
    | _ => none
  | _, _, _ => none
/-- the range over the peers -/
def advP (f : Tm) (_ : Id) (M : Mem) : Option (Tm × Mem) :=
  match f 0 with
  | .ptr i 0 => match M i with
    | some (.cells cs) => match cs[11]? with
      | some m => match entriesV M m with
        | some [] => some ((fun t => if t = 3 ∨ t = 4 ∨ (18 ≤ t ∧ t ≤ 31) then .bad else f t), M)
        | _ => none
      | none => none
    | _ => none
  | _ => none
/-- the piece of the raft's advance that ranges over the peers -/
noncomputable def advCode : Code := match Go.Proofs.Tryz.f93.body with
  | some (.seq _ (.seq _ (.seq c _))) => c
  | _ => .skip
def isAdv : Code → Bool
  | .seq (.region 2 _ _) (.block 0 _) => true
  | _ => false
open Classical in
noncomputable def cprimOf (f : FuncId) (c : Code) : Option (Tm → Id → Mem → Option (Tm × Mem)) :=
  if isAdv c = true then (if f = 93 ∧ c = advCode then some advP else none) else none
theorem advCode_seq : ∃ a b, advCode = .seq a b := ⟨_, _, rfl⟩
def primOf (f : FuncId) : Option (List V → Id → Mem → Option (V × Mem)) :=
  if f = 118 then some sortP else if f = 41 then some membersP else if f = 212 then some numP else if f = 101 ∨ f = 239 then some (fun _ _ _ => none) else none
end Go.Ab
