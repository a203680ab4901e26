/-
 DERIVED: THE SHELF's CONTRACTS AT THIS DUMP, IN PLAIN WORDS (tools/lay-plain.mjs out of 'YtkfcfbggojmfkaaGreatDoorHLay.lean', which tools/lay-shelf.mjs wrote): THE SAME DECLARATIONS UNDER THE SAME NAMES: 'import', 'namespace', 'open', 'def', 'theorem' AND NOTHING ELSE: no command of the shelf's: FOR A HAND-IN. Each laying: the table of numbers ('.._ren') and one theorem, a field a fact of the dump's own or the kernel's comparison; each contract: ONE APPLICATION.
-/
import Derived.Shelf.Small.Utf8
import Derived.Shelf.Small.Strs
import Derived.Shelf.Strings.Search1
import Derived.Shelf.Unicode.Decode
import Derived.Shelf.Unicode.DecodeSlow
import Derived.Shelf.Unicode.DecodeAny
import Derived.Shelf.Bytes.SlIndexSmall
import Derived.Shelf.Bytes.SlIndexAt
import Derived.Shelf.Bytes.SlSearch0
import Derived.Shelf.Bytes.SlSearch1
import Derived.Shelf.Bytes.SlSearch2
import Derived.Shelf.Bytes.SlIndexWhole
import Derived.Shelf.LaysM
import Derived.Ground.SlbtProg
import Derived.Shelf.Bytes.SlCut
import Derived.Shelf.Bytes.Small
import Derived.Shelf.Bytes.IndexByte
import Derived.Test.YtkfcfbggojmfkaaGreatDoorProg
namespace Go.Proofs
open Go.Shelf
def Tryz.lays137_ren : Go.Shelf.Ren := ⟨fun | 137 => 88 | 217 => 105 | 266 => 122 | n => n, fun | 9 => 9 | 5 => 5 | 3 => 3 | n => n, fun | n => n⟩
theorem Tryz.lays137 : Go.Proofs.Lays.n137 Tryz.prog Tryz.lays137_ren := {
 mixed := by kernel_rfl
 f137 := Tryz.func88.trans (congrArg some (by kernel_rfl))
 f217 := Tryz.func105.trans (congrArg some (by kernel_rfl))
 f266 := Tryz.func122.trans (congrArg some (by kernel_rfl))
 t3 := Tryz.underlying3
 a3 := Tryz.isAgg3
 z3 := Tryz.sizeOf3
 v3 := Tryz.zeroValue3
 t5 := Tryz.underlying5
 a5 := Tryz.isAgg5
 z5 := Tryz.sizeOf5
 v5 := Tryz.zeroValue5
 t9 := Tryz.underlying9
 a9 := Tryz.isAgg9
 z9 := Tryz.sizeOf9
 v9 := Tryz.zeroValue9 }
open Go.RowKit in
theorem Tryz.strings_IndexByte (s : ByteArray) (c : Int) (w : World) :
  Calls Tryz.prog 88 #[.string s, .int .u8 c] w fun e w' => e = .returned (.int .i64 (Lib.indexByte s.data.toList c.toNat.toUInt8)) ∧ w' = w := Any.strings_IndexByte Tryz.lays137 s c w
def Tryz.laysSlT4_ren : Go.Shelf.Ren := ⟨fun | 4 => 87 | 5 => 104 | 6 => 117 | 7 => 118 | 8 => 119 | 9 => 120 | 10 => 121 | 11 => 128 | 12 => 129 | n => n, fun | 22 => 22 | 4 => 4 | 3 => 3 | 0 => 0 | 5 => 5 | 29 => 108 | 9 => 9 | 31 => 126 | 30 => 125 | n => n, fun | 0 => 1 | n => n⟩
theorem Tryz.laysSlT4 : Go.Proofs.SlLaysT.n4 Tryz.prog Tryz.laysSlT4_ren := {
 mixed := by kernel_rfl
 f4 := Tryz.func87.trans (congrArg some (by kernel_rfl))
 f5 := Tryz.func104.trans (congrArg some (by kernel_rfl))
 f6 := Tryz.func117.trans (congrArg some (by kernel_rfl))
 f7 := Tryz.func118.trans (congrArg some (by kernel_rfl))
 f8 := Tryz.func119.trans (congrArg some (by kernel_rfl))
 f9 := Tryz.func120.trans (congrArg some (by kernel_rfl))
 f10 := Tryz.func121.trans (congrArg some (by kernel_rfl))
 f11 := Tryz.func128.trans (congrArg some (by kernel_rfl))
 f12 := Tryz.func129.trans (congrArg some (by kernel_rfl))
 t0 := Tryz.underlying0
 a0 := Tryz.isAgg0
 z0 := Tryz.sizeOf0
 v0 := Tryz.zeroValue0
 t3 := Tryz.underlying3
 a3 := Tryz.isAgg3
 z3 := Tryz.sizeOf3
 v3 := Tryz.zeroValue3
 t4 := Tryz.underlying4
 a4 := Tryz.isAgg4
 z4 := Tryz.sizeOf4
 v4 := Tryz.zeroValue4
 t5 := Tryz.underlying5
 a5 := Tryz.isAgg5
 z5 := Tryz.sizeOf5
 v5 := Tryz.zeroValue5
 t9 := Tryz.underlying9
 a9 := Tryz.isAgg9
 z9 := Tryz.sizeOf9
 v9 := Tryz.zeroValue9
 t22 := Tryz.underlying22
 a22 := Tryz.isAgg22
 z22 := Tryz.sizeOf22
 v22 := Tryz.zeroValue22
 t29 := Tryz.underlying108
 a29 := Tryz.isAgg108
 z29 := Tryz.sizeOf108
 v29 := Tryz.zeroValue108
 t30 := Tryz.underlying125
 a30 := Tryz.isAgg125
 z30 := Tryz.sizeOf125
 v30 := Tryz.zeroValue125
 t31 := Tryz.underlying126
 a31 := Tryz.isAgg126
 z31 := Tryz.sizeOf126
 v31 := Tryz.zeroValue126
 g0 := by kernel_rfl }
theorem Tryz.bytes_Cut_of (p1 p2 : Option Addr) (n c1 k c2 : Nat) (i : Int) (w : World) (hcap : n ≤ c1) (hlo : -1 ≤ i) (hroom : 0 ≤ i → i + k ≤ n) (hn : n ≤ 4611686018427387904) (hidx : Calls Tryz.prog 104 #[.slice p1 n c1, .slice p2 k c2] w fun e w' => e = .returned (.int .i64 i) ∧ ∃ q, w' = w.drewN q) :
  Calls Tryz.prog 87 #[.slice p1 n c1, .slice p2 k c2] w fun e w' => e = .returned (Lib.cutV p1 n c1 k i) ∧ ∃ q, w' = w.drewN q := Any.bytes_Cut_of Tryz.laysSlT4 p1 p2 n c1 k c2 i w hcap hlo hroom hn hidx
def Tryz.lays185_ren : Go.Shelf.Ren := ⟨fun | 185 => 104 | 187 => 117 | 115 => 118 | 253 => 119 | 224 => 120 | 254 => 121 | 255 => 128 | 291 => 129 | n => n, fun | 37 => 22 | 3 => 3 | 4 => 4 | 0 => 0 | 5 => 5 | 46 => 108 | 9 => 9 | 146 => 126 | 51 => 125 | n => n, fun | 1 => 1 | n => n⟩
theorem Tryz.lays185 : Go.Proofs.Lays.n185 Tryz.prog Tryz.lays185_ren := {
 mixed := by kernel_rfl
 f115 := Tryz.func118.trans (congrArg some (by kernel_rfl))
 f185 := Tryz.func104.trans (congrArg some (by kernel_rfl))
 f187 := Tryz.func117.trans (congrArg some (by kernel_rfl))
 f224 := Tryz.func120.trans (congrArg some (by kernel_rfl))
 f253 := Tryz.func119.trans (congrArg some (by kernel_rfl))
 f254 := Tryz.func121.trans (congrArg some (by kernel_rfl))
 f255 := Tryz.func128.trans (congrArg some (by kernel_rfl))
 f291 := Tryz.func129.trans (congrArg some (by kernel_rfl))
 t0 := Tryz.underlying0
 a0 := Tryz.isAgg0
 z0 := Tryz.sizeOf0
 v0 := Tryz.zeroValue0
 t3 := Tryz.underlying3
 a3 := Tryz.isAgg3
 z3 := Tryz.sizeOf3
 v3 := Tryz.zeroValue3
 t4 := Tryz.underlying4
 a4 := Tryz.isAgg4
 z4 := Tryz.sizeOf4
 v4 := Tryz.zeroValue4
 t5 := Tryz.underlying5
 a5 := Tryz.isAgg5
 z5 := Tryz.sizeOf5
 v5 := Tryz.zeroValue5
 t9 := Tryz.underlying9
 a9 := Tryz.isAgg9
 z9 := Tryz.sizeOf9
 v9 := Tryz.zeroValue9
 t37 := Tryz.underlying22
 a37 := Tryz.isAgg22
 z37 := Tryz.sizeOf22
 v37 := Tryz.zeroValue22
 t46 := Tryz.underlying108
 a46 := Tryz.isAgg108
 z46 := Tryz.sizeOf108
 v46 := Tryz.zeroValue108
 t51 := Tryz.underlying125
 a51 := Tryz.isAgg125
 z51 := Tryz.sizeOf125
 v51 := Tryz.zeroValue125
 t146 := Tryz.underlying126
 a146 := Tryz.isAgg126
 z146 := Tryz.sizeOf126
 v146 := Tryz.zeroValue126
 g1 := by kernel_rfl }
open Go.RowKit Go.Lib in
theorem Tryz.bytes_Index_one_at (a : Addr) (n c b2 o2 d : Nat) (xs : List Int) (cv : Int) (w : World) (hx : xs.length = n) (hc : ∀ i, i < n → w.cell? (a.add i) = some (.int .u8 (xs.getD i 0))) (hc2 : w.cell? ⟨b2, o2, none⟩ = some (.int .u8 cv)) :
  Calls Tryz.prog 104 #[.slice (some a) n c, .slice (some ⟨b2, o2, none⟩) 1 d] w fun e w' => e = .returned (.int .i64 (Lib.indexByte (Lib.bytesOf xs) cv.toNat.toUInt8)) ∧ w' = w := Any.bytes_Index_one_at Tryz.lays185 a n c b2 o2 d xs cv w hx hc hc2
end Go.Proofs
