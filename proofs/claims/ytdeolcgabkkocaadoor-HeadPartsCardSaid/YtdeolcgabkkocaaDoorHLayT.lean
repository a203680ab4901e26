/-
  DERIVED: THE SHELF's CONTRACTS AT THIS DUMP, IN PLAIN WORDS (tools/lay-plain.mjs out of 'YtdeolcgabkkocaaDoorHLayT.lean', which tools/lay-shelf.mjs wrote): THE SAME DECLARATIONS UNDER THE SAME NAMES: 'import', 'namespace', 'open', 'def', 'theorem' AND NOTHING ELSE: no command of the shelf's: FOR A HAND-IN. Each laying: the table of numbers ('.._ren') and one theorem, a field a fact of the dump's own or the kernel's comparison; each contract: ONE APPLICATION.
-/
import Derived.Test.YtdeolcgabkkocaaDoorProg
import Derived.Shelf.Bytes.SlTrim
import Derived.Shelf.Strings.SlTrimAscii
namespace Go.Proofs
open Go.Shelf
def Tryd.lays34_ren : Go.Shelf.Ren := ⟨fun | 6 => 77 | 10 => 85 | 9 => 81 | 11 => 82 | 13 => 86 | 12 => 83 | 15 => 87 | 14 => 84 | 16 => 93 | 19 => 96 | 18 => 95 | 17 => 94 | 21 => 100 | 20 => 99 | n => n, fun | 22 => 22 | 9 => 9 | 3 => 3 | 4 => 4 | 5 => 5 | 28 => 102 | 27 => 101 | 0 => 0 | 31 => 105 | 21 => 21 | 33 => 108 | 36 => 114 | 37 => 93 | 40 => 117 | 39 => 116 | n => n, fun | 0 => 2 | 1 => 3 | n => n⟩
theorem Tryd.lays34 : Go.Proofs.SlLaysV.n6 Tryd.prog Tryd.lays34_ren := {
  mixed := by kernel_rfl
  f6 := Tryd.func77.trans (congrArg some (by kernel_rfl))
  f9 := Tryd.func81.trans (congrArg some (by kernel_rfl))
  f10 := Tryd.func85.trans (congrArg some (by kernel_rfl))
  f11 := Tryd.func82.trans (congrArg some (by kernel_rfl))
  f12 := Tryd.func83.trans (congrArg some (by kernel_rfl))
  f13 := Tryd.func86.trans (congrArg some (by kernel_rfl))
  f14 := Tryd.func84.trans (congrArg some (by kernel_rfl))
  f15 := Tryd.func87.trans (congrArg some (by kernel_rfl))
  f16 := Tryd.func93.trans (congrArg some (by kernel_rfl))
  f17 := Tryd.func94.trans (congrArg some (by kernel_rfl))
  f18 := Tryd.func95.trans (congrArg some (by kernel_rfl))
  f19 := Tryd.func96.trans (congrArg some (by kernel_rfl))
  f20 := Tryd.func99.trans (congrArg some (by kernel_rfl))
  f21 := Tryd.func100.trans (congrArg some (by kernel_rfl))
  t0 := Tryd.underlying0
  a0 := Tryd.isAgg0
  z0 := Tryd.sizeOf0
  v0 := Tryd.zeroValue0
  t3 := Tryd.underlying3
  a3 := Tryd.isAgg3
  z3 := Tryd.sizeOf3
  v3 := Tryd.zeroValue3
  t4 := Tryd.underlying4
  a4 := Tryd.isAgg4
  z4 := Tryd.sizeOf4
  v4 := Tryd.zeroValue4
  t5 := Tryd.underlying5
  a5 := Tryd.isAgg5
  z5 := Tryd.sizeOf5
  v5 := Tryd.zeroValue5
  t9 := Tryd.underlying9
  a9 := Tryd.isAgg9
  z9 := Tryd.sizeOf9
  v9 := Tryd.zeroValue9
  t21 := Tryd.underlying21
  a21 := Tryd.isAgg21
  z21 := Tryd.sizeOf21
  v21 := Tryd.zeroValue21
  t22 := Tryd.underlying22
  a22 := Tryd.isAgg22
  z22 := Tryd.sizeOf22
  v22 := Tryd.zeroValue22
  t27 := Tryd.underlying101
  a27 := Tryd.isAgg101
  z27 := Tryd.sizeOf101
  t28 := Tryd.underlying102
  a28 := Tryd.isAgg102
  z28 := Tryd.sizeOf102
  v28 := Tryd.zeroValue102
  t31 := Tryd.underlying105
  a31 := Tryd.isAgg105
  z31 := Tryd.sizeOf105
  v31 := Tryd.zeroValue105
  t33 := Tryd.underlying108
  a33 := Tryd.isAgg108
  z33 := Tryd.sizeOf108
  v33 := Tryd.zeroValue108
  t36 := Tryd.underlying114
  a36 := Tryd.isAgg114
  z36 := Tryd.sizeOf114
  t37 := Tryd.underlying93
  a37 := Tryd.isAgg93
  z37 := Tryd.sizeOf93
  v37 := Tryd.zeroValue93
  t39 := Tryd.underlying116
  a39 := Tryd.isAgg116
  z39 := Tryd.sizeOf116
  v39 := Tryd.zeroValue116
  t40 := Tryd.underlying117
  a40 := Tryd.isAgg117
  z40 := Tryd.sizeOf117
  v40 := Tryd.zeroValue117 }
end Go.Proofs
