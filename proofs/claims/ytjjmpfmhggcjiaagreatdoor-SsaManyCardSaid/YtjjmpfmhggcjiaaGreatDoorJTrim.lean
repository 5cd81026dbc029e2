/-
 Trim.
-/
import Derived.Shelf.Strings.SlTrimAscii
import Derived.Test.YtjjmpfmhggcjiaaGreatDoorProg
set_option linter.unusedSimpArgs false
set_option linter.unusedVariables false
namespace Go.Proofs.YtjjmpfmhggcjiaaGreatDoor
open Go.Shelf
def lays160_ren : Go.Shelf.Ren := ⟨fun | 160 => 115 | 232 => 158 | 231 => 157 | 227 => 159 | 234 => 161 | 233 => 160 | 236 => 163 | 235 => 162 | 228 => 191 | 271 => 193 | 151 => 192 | 197 => 183 | 120 => 220 | 152 => 219 | 260 => 212 | 137 => 235 | 119 => 216 | 224 => 236 | 225 => 237 | 217 => 245 | 266 => 254 | n => n, fun | 9 => 9 | 4 => 4 | 3 => 3 | 5 => 5 | 117 => 239 | 116 => 238 | 0 => 0 | 124 => 242 | 21 => 21 | 105 => 263 | 46 => 248 | 119 => 307 | 139 => 310 | 138 => 309 | n => n, fun | 3 => 15 | 4 => 16 | n => n⟩
theorem lays160 : Go.Proofs.Lays.n160 Tryz.prog lays160_ren := {
 mixed := by kernel_rfl
 f119 := Tryz.func216.trans (congrArg some (by kernel_rfl))
 f120 := Tryz.func220.trans (congrArg some (by kernel_rfl))
 f137 := Tryz.func235.trans (congrArg some (by kernel_rfl))
 f151 := Tryz.func192.trans (congrArg some (by kernel_rfl))
 f152 := Tryz.func219.trans (congrArg some (by kernel_rfl))
 f160 := Tryz.func115.trans (congrArg some (by kernel_rfl))
 f197 := Tryz.func183.trans (congrArg some (by kernel_rfl))
 f217 := Tryz.func245.trans (congrArg some (by kernel_rfl))
 f224 := Tryz.func236.trans (congrArg some (by kernel_rfl))
 f225 := Tryz.func237.trans (congrArg some (by kernel_rfl))
 f227 := Tryz.func159.trans (congrArg some (by kernel_rfl))
 f228 := Tryz.func191.trans (congrArg some (by kernel_rfl))
 f231 := Tryz.func157.trans (congrArg some (by kernel_rfl))
 f232 := Tryz.func158.trans (congrArg some (by kernel_rfl))
 f233 := Tryz.func160.trans (congrArg some (by kernel_rfl))
 f234 := Tryz.func161.trans (congrArg some (by kernel_rfl))
 f235 := Tryz.func162.trans (congrArg some (by kernel_rfl))
 f236 := Tryz.func163.trans (congrArg some (by kernel_rfl))
 f260 := Tryz.func212.trans (congrArg some (by kernel_rfl))
 f266 := Tryz.func254.trans (congrArg some (by kernel_rfl))
 f271 := Tryz.func193.trans (congrArg some (by kernel_rfl))
 t0 := Tryz.underlying0
 a0 := Tryz.isAgg0
 z0 := Tryz.sizeOf0
 v0 := Tryz.zeroValue0
 t3 := Tryz.underlying3
 a3 := Tryz.isAgg3
 z3 := Tryz.sizeOf3
 v3 := Tryz.zeroValue3
 t4 := Tryz.underlying4
 a4 := Tryz.isAgg4
 z4 := Tryz.sizeOf4
 v4 := Tryz.zeroValue4
 t5 := Tryz.underlying5
 a5 := Tryz.isAgg5
 z5 := Tryz.sizeOf5
 v5 := Tryz.zeroValue5
 t9 := Tryz.underlying9
 a9 := Tryz.isAgg9
 z9 := Tryz.sizeOf9
 v9 := Tryz.zeroValue9
 t21 := Tryz.underlying21
 a21 := Tryz.isAgg21
 z21 := Tryz.sizeOf21
 v21 := Tryz.zeroValue21
 t46 := Tryz.underlying248
 a46 := Tryz.isAgg248
 z46 := Tryz.sizeOf248
 v46 := Tryz.zeroValue248
 t105 := Tryz.underlying263
 a105 := Tryz.isAgg263
 z105 := Tryz.sizeOf263
 v105 := Tryz.zeroValue263
 t116 := Tryz.underlying238
 a116 := Tryz.isAgg238
 z116 := Tryz.sizeOf238
 t117 := Tryz.underlying239
 a117 := Tryz.isAgg239
 z117 := Tryz.sizeOf239
 v117 := Tryz.zeroValue239
 t119 := Tryz.underlying307
 a119 := Tryz.isAgg307
 z119 := Tryz.sizeOf307
 t124 := Tryz.underlying242
 a124 := Tryz.isAgg242
 z124 := Tryz.sizeOf242
 v124 := Tryz.zeroValue242
 t138 := Tryz.underlying309
 a138 := Tryz.isAgg309
 z138 := Tryz.sizeOf309
 v138 := Tryz.zeroValue309
 t139 := Tryz.underlying310
 a139 := Tryz.isAgg310
 z139 := Tryz.sizeOf310
 v139 := Tryz.zeroValue310
 g3 := by kernel_rfl
 g4 := by kernel_rfl }
end Go.Proofs.YtjjmpfmhggcjiaaGreatDoor
