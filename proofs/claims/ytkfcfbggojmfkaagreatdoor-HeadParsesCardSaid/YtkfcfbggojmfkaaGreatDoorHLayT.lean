/-
 DERIVED: THE SHELF's CONTRACTS AT THIS DUMP, IN PLAIN WORDS (tools/lay-plain.mjs out of 'YtkfcfbggojmfkaaGreatDoorHLayT.lean', which tools/lay-shelf.mjs wrote): THE SAME DECLARATIONS UNDER THE SAME NAMES: 'import', 'namespace', 'open', 'def', 'theorem' AND NOTHING ELSE: no command of the shelf's: FOR A HAND-IN. Each laying: the table of numbers ('.._ren') and one theorem, a field a fact of the dump's own or the kernel's comparison; each contract: ONE APPLICATION.
-/
import Derived.Test.YtkfcfbggojmfkaaGreatDoorProg
import Derived.Shelf.Bytes.SlTrim
import Derived.Shelf.Strings.SlTrimAscii
namespace Go.Proofs
open Go.Shelf
def Tryz.lays34_ren : Go.Shelf.Ren := ⟨fun | 6 => 96 | 10 => 110 | 9 => 109 | 11 => 111 | 13 => 113 | 12 => 112 | 15 => 115 | 14 => 114 | 16 => 124 | 19 => 127 | 18 => 126 | 17 => 125 | 21 => 131 | 20 => 130 | n => n, fun | 22 => 22 | 9 => 9 | 3 => 3 | 4 => 4 | 5 => 5 | 28 => 116 | 27 => 115 | 0 => 0 | 31 => 119 | 21 => 21 | 33 => 112 | 36 => 128 | 37 => 108 | 40 => 131 | 39 => 130 | n => n, fun | 0 => 2 | 1 => 3 | n => n⟩
theorem Tryz.lays34 : Go.Proofs.SlLaysV.n6 Tryz.prog Tryz.lays34_ren := {
 mixed := by kernel_rfl
 f6 := Tryz.func96.trans (congrArg some (by kernel_rfl))
 f9 := Tryz.func109.trans (congrArg some (by kernel_rfl))
 f10 := Tryz.func110.trans (congrArg some (by kernel_rfl))
 f11 := Tryz.func111.trans (congrArg some (by kernel_rfl))
 f12 := Tryz.func112.trans (congrArg some (by kernel_rfl))
 f13 := Tryz.func113.trans (congrArg some (by kernel_rfl))
 f14 := Tryz.func114.trans (congrArg some (by kernel_rfl))
 f15 := Tryz.func115.trans (congrArg some (by kernel_rfl))
 f16 := Tryz.func124.trans (congrArg some (by kernel_rfl))
 f17 := Tryz.func125.trans (congrArg some (by kernel_rfl))
 f18 := Tryz.func126.trans (congrArg some (by kernel_rfl))
 f19 := Tryz.func127.trans (congrArg some (by kernel_rfl))
 f20 := Tryz.func130.trans (congrArg some (by kernel_rfl))
 f21 := Tryz.func131.trans (congrArg some (by kernel_rfl))
 t0 := Tryz.underlying0
 a0 := Tryz.isAgg0
 z0 := Tryz.sizeOf0
 v0 := Tryz.zeroValue0
 t3 := Tryz.underlying3
 a3 := Tryz.isAgg3
 z3 := Tryz.sizeOf3
 v3 := Tryz.zeroValue3
 t4 := Tryz.underlying4
 a4 := Tryz.isAgg4
 z4 := Tryz.sizeOf4
 v4 := Tryz.zeroValue4
 t5 := Tryz.underlying5
 a5 := Tryz.isAgg5
 z5 := Tryz.sizeOf5
 v5 := Tryz.zeroValue5
 t9 := Tryz.underlying9
 a9 := Tryz.isAgg9
 z9 := Tryz.sizeOf9
 v9 := Tryz.zeroValue9
 t21 := Tryz.underlying21
 a21 := Tryz.isAgg21
 z21 := Tryz.sizeOf21
 v21 := Tryz.zeroValue21
 t22 := Tryz.underlying22
 a22 := Tryz.isAgg22
 z22 := Tryz.sizeOf22
 v22 := Tryz.zeroValue22
 t27 := Tryz.underlying115
 a27 := Tryz.isAgg115
 z27 := Tryz.sizeOf115
 t28 := Tryz.underlying116
 a28 := Tryz.isAgg116
 z28 := Tryz.sizeOf116
 v28 := Tryz.zeroValue116
 t31 := Tryz.underlying119
 a31 := Tryz.isAgg119
 z31 := Tryz.sizeOf119
 v31 := Tryz.zeroValue119
 t33 := Tryz.underlying112
 a33 := Tryz.isAgg112
 z33 := Tryz.sizeOf112
 v33 := Tryz.zeroValue112
 t36 := Tryz.underlying128
 a36 := Tryz.isAgg128
 z36 := Tryz.sizeOf128
 t37 := Tryz.underlying108
 a37 := Tryz.isAgg108
 z37 := Tryz.sizeOf108
 v37 := Tryz.zeroValue108
 t39 := Tryz.underlying130
 a39 := Tryz.isAgg130
 z39 := Tryz.sizeOf130
 v39 := Tryz.zeroValue130
 t40 := Tryz.underlying131
 a40 := Tryz.isAgg131
 z40 := Tryz.sizeOf131
 v40 := Tryz.zeroValue131 }
end Go.Proofs
