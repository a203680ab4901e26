/- Lean functions with the answers of the Go functions of this seat, and for each the proof that the Go code comes to them (made by the session's program over the kit's print). No conditions. -/
import Derived.Test.YtkfcfbggojmfkaaGreatDoorProg
import Derived.Below
import Derived.Deep.Draws
import Derived.Deep.AppendLies
import Derived.Maps.AppendAt
import Derived.OwnWalk
import Derived.Laws.BytesArg
import Derived.Laws.MakeOwn
import Derived.Laws.OwnMore
import Derived.Deep.OwnRows
import Derived.Tactics
import Derived.Lib.ConvBytes
import Derived.Laws.Slices
import Derived.WalkKit
import Derived.KernelRfl
import Derived.RowKit3
import Derived.Deep.LoopGhost
import Derived.Deep.QuietTactic
import Derived.BigQuiet
import Derived.WideLaws
import Derived.Deep.DeepCutAuto
import Derived.Deep.CutBlock
import Derived.Deep.RegionHeld3
import Derived.Laws.Rows
import Derived.Lib.AppendStr
import Derived.ArgAppend
import Derived.Laws.IdiomCopy
import Derived.OrdersHeld
import Derived.Laws.BitsLemmas
import Derived.RowKit
import Derived.Test.YtkfcfbggojmfkaaGreatDoorWWords
import Derived.Test.YtkfcfbggojmfkaaGreatDoorWLast
import Derived.Test.YtkfcfbggojmfkaaGreatDoorWTab
import Derived.Test.YtkfcfbggojmfkaaGreatDoorWFour
import Derived.Test.YtkfcfbggojmfkaaGreatDoorWQPut
import Derived.Test.YtkfcfbggojmfkaaGreatDoorWApart
import Derived.Test.YtkfcfbggojmfkaaGreatDoorWArr
import Derived.Test.YtkfcfbggojmfkaaGreatDoorWZeros
import Derived.Test.YtkfcfbggojmfkaaGreatDoorWFoot
import Derived.Test.YtkfcfbggojmfkaaGreatDoorWKept
import Derived.Test.YtkfcfbggojmfkaaGreatDoorWShare
import Derived.Test.YtkfcfbggojmfkaaGreatDoorWN
import Derived.Test.YtkfcfbggojmfkaaGreatDoorWFootNe
import Derived.Test.YtkfcfbggojmfkaaGreatDoorWAt
import Derived.Test.YtkfcfbggojmfkaaGreatDoorWEqStruct
import Derived.Test.YtkfcfbggojmfkaaGreatDoorWRepsOne
import Derived.Test.YtkfcfbggojmfkaaGreatDoorWInv
import Derived.Test.YtkfcfbggojmfkaaGreatDoorWInvWords
import Derived.Test.YtkfcfbggojmfkaaGreatDoorWGuard
import Derived.Test.YtkfcfbggojmfkaaGreatDoorWNEv
import Derived.Test.YtkfcfbggojmfkaaGreatDoorWMore
namespace Go.Proofs.YtkfcfbggojmfkaaGreatDoor.P
open Go.RowKit Go.Proofs.YtkfcfbggojmfkaaGreatDoorW.PrintWords Go.Proofs.YtkfcfbggojmfkaaGreatDoorW.PrintLast Go.Proofs.YtkfcfbggojmfkaaGreatDoorW.PrintMore
attribute [local go_sem] max2_int min2_int max_two min_two max_three min_three max_four min_four   -- for this text's walks alone
set_option linter.unusedVariables false
set_option linter.unusedSimpArgs false



def errW : Option Int → Value
 | none => .nilIface
 | some c => .iface 0 (.int .i64 c)
theorem errW_none : errW none = .nilIface := rfl
theorem errW_some (c : Int) : errW (some c) = .iface 0 (.int .i64 c) := rfl

theorem info3 : (Tryz.prog.info? 3).map (fun i => (i.zero, i.size, i.bytes)) = some (some (.int .i64 0), 1, 8) := by kernel_rfl
theorem info5 : (Tryz.prog.info? 5).map (fun i => (i.zero, i.size, i.bytes)) = some (some (.int .u8 0), 1, 1) := by kernel_rfl
theorem info64 : (Tryz.prog.info? 64).map (fun i => (i.zero, i.size, i.bytes)) = some (some (.agg #[(.int .i64 0), (.int .i64 0)]), 2, 16) := by kernel_rfl
-- the values' own types
/-! #### struct type 64 -/
structure S64 where
 f0 : Int
 f1 : Int
def z64 : S64 := ⟨(0 : Int), (0 : Int)⟩
def k64 : Kd S64 := Kd.iso (Kd.pair (Kd.int .i64) (Kd.int .i64)) (fun x : S64 => (x.f0, x.f1))
theorem k64_open {w : World} {x : S64} {cs : List Value} (h : k64.K w x cs) : cs = [.int .i64 x.f0, .int .i64 x.f1] := by
 obtain ⟨_, _, rfl, rfl, rfl⟩ := h
 exact rfl
theorem k64_mkM (w : World) (base : Nat) (ok : Nat → Prop) (x : S64)  : k64.M w base ok x [.int .i64 x.f0, .int .i64 x.f1] := ⟨[.int .i64 x.f0], [.int .i64 x.f1], rfl, rfl, rfl⟩
def rd_T64 (xs : List S64) (i : Int) : S64 := xs.getD i.toNat z64
theorem at_T64 {w : World} {A : Option Addr} {n : Nat} {xs : List S64} (h : Kd.C k64 w A n xs) (i : Int) (h0 : 0 ≤ i) (h1 : i < n) : ∃ ad , A = some ad ∧ w.cell? (ad.add (i.toNat * 2)) = some (.int .i64 (rd_T64 xs i).f0) ∧ w.cell? ⟨(ad.add (i.toNat * 2)).block, (ad.add (i.toNat * 2)).off + 1, none⟩ = some (.int .i64 (rd_T64 xs i).f1) := by
 obtain ⟨ad, c, e, _, hK, hc0⟩ := Kd.C_get h z64 i h0 h1
 have hc : ∀ j u, c[j]? = some u → w.cell? (ad.add (i.toNat * 2 + j)) = some u := hc0
 obtain rfl := k64_open hK
 exact ⟨ad, e, hc 0 _ rfl, by rw [← add_field _ _ 1 (by omega)]; exact hc 1 _ rfl⟩

/-! #### struct type 31 -/
structure S31 where
 f0 : ByteArray
 f1 : Int
 f2 : Int
 f3 : Int
 f4 : Int
 f5 : Int
 f6 : Int
 f7 : ByteArray
 f8 : Int
 f9 : ByteArray
 f10 : ByteArray
 f11 : Int
 f12 : Int
 f13 : ByteArray
 f14 : (List S64)
 f15 : Bool
 f16 : Int
def z31 : S31 := ⟨(⟨#[]⟩ : ByteArray), (0 : Int), (0 : Int), (0 : Int), (0 : Int), (0 : Int), (0 : Int), (⟨#[]⟩ : ByteArray), (0 : Int), (⟨#[]⟩ : ByteArray), (⟨#[]⟩ : ByteArray), (0 : Int), (0 : Int), (⟨#[]⟩ : ByteArray), ([] : List S64), false, (0 : Int)⟩
end Go.Proofs.YtkfcfbggojmfkaaGreatDoor.P
