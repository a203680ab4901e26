/- Lean functions with the answers of the Go functions of this seat, and for each the proof that the Go code comes to them (made by the session's program over the kit's print). No conditions. -/
import Derived.Test.YtdeolcgabkkocaaDoorProg
import Derived.Below
import Derived.Deep.Draws
import Derived.Deep.AppendLies
import Derived.Maps.AppendAt
import Derived.OwnWalk
import Derived.Laws.BytesArg
import Derived.Laws.MakeOwn
import Derived.Laws.OwnMore
import Derived.Deep.OwnRows
import Derived.Tactics
import Derived.Lib.ConvBytes
import Derived.Laws.Slices
import Derived.WalkKit
import Derived.KernelRfl
import Derived.RowKit3
import Derived.Deep.LoopGhost
import Derived.Deep.QuietTactic
import Derived.BigQuiet
import Derived.WideLaws
import Derived.Deep.DeepCutAuto
import Derived.Deep.CutBlock
import Derived.Deep.RegionHeld3
import Derived.Laws.Rows
import Derived.Lib.AppendStr
import Derived.ArgAppend
import Derived.Laws.IdiomCopy
import Derived.OrdersHeld
import Derived.Laws.BitsLemmas
import Derived.RowKit
import Derived.Test.YtdeolcgabkkocaaDoorWWords
import Derived.Test.YtdeolcgabkkocaaDoorWLast
import Derived.Test.YtdeolcgabkkocaaDoorWTab
import Derived.Test.YtdeolcgabkkocaaDoorWFour
import Derived.Test.YtdeolcgabkkocaaDoorWQPut
import Derived.Test.YtdeolcgabkkocaaDoorWApart
import Derived.Test.YtdeolcgabkkocaaDoorWArr
import Derived.Test.YtdeolcgabkkocaaDoorWZeros
import Derived.Test.YtdeolcgabkkocaaDoorWFoot
import Derived.Test.YtdeolcgabkkocaaDoorWKept
import Derived.Test.YtdeolcgabkkocaaDoorWShare
import Derived.Test.YtdeolcgabkkocaaDoorWN
import Derived.Test.YtdeolcgabkkocaaDoorWFootNe
import Derived.Test.YtdeolcgabkkocaaDoorWAt
import Derived.Test.YtdeolcgabkkocaaDoorWEqStruct
import Derived.Test.YtdeolcgabkkocaaDoorWRepsOne
import Derived.Test.YtdeolcgabkkocaaDoorWInv
import Derived.Test.YtdeolcgabkkocaaDoorWInvWords
import Derived.Test.YtdeolcgabkkocaaDoorWGuard
import Derived.Test.YtdeolcgabkkocaaDoorWNEv
import Derived.Test.YtdeolcgabkkocaaDoorWMore
namespace Go.Proofs.YtdeolcgabkkocaaDoor.P
open Go.RowKit Go.Proofs.YtdeolcgabkkocaaDoorW.PrintWords Go.Proofs.YtdeolcgabkkocaaDoorW.PrintLast Go.Proofs.YtdeolcgabkkocaaDoorW.PrintMore
attribute [local go_sem] max2_int min2_int max_two min_two max_three min_three max_four min_four   -- for this text's walks alone
set_option linter.unusedVariables false
set_option linter.unusedSimpArgs false



def errW : Option Int → Value
  | none => .nilIface
  | some c => .iface 0 (.int .i64 c)
theorem errW_none : errW none = .nilIface := rfl
theorem errW_some (c : Int) : errW (some c) = .iface 0 (.int .i64 c) := rfl

theorem info3 : (Tryd.prog.info? 3).map (fun i => (i.zero, i.size, i.bytes)) = some (some (.int .i64 0), 1, 8) := by kernel_rfl
theorem info5 : (Tryd.prog.info? 5).map (fun i => (i.zero, i.size, i.bytes)) = some (some (.int .u8 0), 1, 1) := by kernel_rfl
theorem info9 : (Tryd.prog.info? 9).map (fun i => (i.zero, i.size, i.bytes)) = some (some (.string ⟨#[]⟩), 1, 16) := by kernel_rfl
theorem info49 : (Tryd.prog.info? 49).map (fun i => (i.zero, i.size, i.bytes)) = some (some (.agg #[(.int .i64 0), (.int .i64 0)]), 2, 16) := by kernel_rfl
-- the values' own types
/-! #### struct type 49 -/
structure S49 where
  f0 : Int
  f1 : Int
def z49 : S49 := ⟨(0 : Int), (0 : Int)⟩
def k49 : Kd S49 := Kd.iso (Kd.pair (Kd.int .i64) (Kd.int .i64)) (fun x : S49 => (x.f0, x.f1))
theorem k49_heap : Kd.Heap k49 := Kd.heap_iso _ (Kd.heap_pair (Kd.heap_int .i64) (Kd.heap_int .i64))
theorem k49_open {w : World} {x : S49} {cs : List Value} (h : k49.K w x cs) : cs = [.int .i64 x.f0, .int .i64 x.f1] := by
  obtain ⟨_, _, rfl, rfl, rfl⟩ := h
  exact rfl
theorem k49_openM {w : World} {base : Nat} {ok : Nat → Prop} {x : S49} {cs : List Value} (h : k49.M w base ok x cs) : cs = [.int .i64 x.f0, .int .i64 x.f1] := by
  obtain ⟨_, _, rfl, rfl, rfl⟩ := h
  exact rfl
theorem k49_mk (w : World) (x : S49)  : k49.K w x [.int .i64 x.f0, .int .i64 x.f1] := ⟨[.int .i64 x.f0], [.int .i64 x.f1], rfl, rfl, rfl⟩
theorem k49_mkM (w : World) (base : Nat) (ok : Nat → Prop) (x : S49)  : k49.M w base ok x [.int .i64 x.f0, .int .i64 x.f1] := ⟨[.int .i64 x.f0], [.int .i64 x.f1], rfl, rfl, rfl⟩
theorem k49_mkF (W : World) (ok : Nat → Prop) (x : S49) : Kd.FK k49 W ok x [.int .i64 x.f0, .int .i64 x.f1] := fun W2 _ => k49_mk W2 x
def rd_T49 (xs : List S49) (i : Int) : S49 := xs.getD i.toNat z49
theorem at_T49 {w : World} {A : Option Addr} {n : Nat} {xs : List S49} (h : Kd.C k49 w A n xs) (i : Int) (h0 : 0 ≤ i) (h1 : i < n) : ∃ ad , A = some ad ∧ w.cell? (ad.add (i.toNat * 2)) = some (.int .i64 (rd_T49 xs i).f0) ∧ w.cell? ⟨(ad.add (i.toNat * 2)).block, (ad.add (i.toNat * 2)).off + 1, none⟩ = some (.int .i64 (rd_T49 xs i).f1) := by
  obtain ⟨ad, c, e, _, hK, hc0⟩ := Kd.C_get h z49 i h0 h1
  have hc : ∀ j u, c[j]? = some u → w.cell? (ad.add (i.toNat * 2 + j)) = some u := hc0
  obtain rfl := k49_open hK
  exact ⟨ad, e, hc 0 _ rfl, by rw [← add_field _ _ 1 (by omega)]; exact hc 1 _ rfl⟩

def rd_L4 (xs : List (List Int)) (i : Int) : (List Int) := xs.getD i.toNat ([] : List Int)
theorem at_L4 {w : World} {A : Option Addr} {n : Nat} {xs : List (List Int)} (h : Kd.C (Kd.slice 5 (Kd.int .u8)) w A n xs) (i : Int) (h0 : 0 ≤ i) (h1 : i < n) : ∃ ad A0 c0, A = some ad ∧ w.cell? (ad.add i.toNat) = some (.slice A0 (rd_L4 xs i).length c0) ∧ (rd_L4 xs i).length ≤ c0 ∧ (Kd.int .u8).C w A0 (rd_L4 xs i).length (rd_L4 xs i) := by
  obtain ⟨ad, c, e, _, hK, hc0⟩ := Kd.C_get h ([] : List Int) i h0 h1
  have hc : ∀ j u, c[j]? = some u → w.cell? (ad.add (i.toNat * 1 + j)) = some u := hc0
  obtain ⟨A0, c0, rfl, l0, g0⟩ := hK
  exact ⟨ad, A0, c0, e, by have hq := hc 0 _ rfl; rwa [Nat.mul_one, Nat.add_zero] at hq, l0, g0⟩

def rd_L5 (xs : List (List S49)) (i : Int) : (List S49) := xs.getD i.toNat ([] : List S49)
theorem at_L5 {w : World} {A : Option Addr} {n : Nat} {xs : List (List S49)} (h : Kd.C (Kd.slice 49 k49) w A n xs) (i : Int) (h0 : 0 ≤ i) (h1 : i < n) : ∃ ad A0 c0, A = some ad ∧ w.cell? (ad.add i.toNat) = some (.slice A0 (rd_L5 xs i).length c0) ∧ (rd_L5 xs i).length ≤ c0 ∧ k49.C w A0 (rd_L5 xs i).length (rd_L5 xs i) := by
  obtain ⟨ad, c, e, _, hK, hc0⟩ := Kd.C_get h ([] : List S49) i h0 h1
  have hc : ∀ j u, c[j]? = some u → w.cell? (ad.add (i.toNat * 1 + j)) = some u := hc0
  obtain ⟨A0, c0, rfl, l0, g0⟩ := hK
  exact ⟨ad, A0, c0, e, by have hq := hc 0 _ rfl; rwa [Nat.mul_one, Nat.add_zero] at hq, l0, g0⟩

/-! #### struct type 25 -/
structure S25 where
  f0 : ByteArray
  f1 : Int
  f2 : Int
  f3 : Int
  f4 : Int
  f5 : Int
  f6 : Int
  f7 : ByteArray
  f8 : Int
  f9 : ByteArray
  f10 : ByteArray
  f11 : Int
  f12 : Int
  f13 : ByteArray
  f14 : (List S49)
  f15 : Bool
  f16 : Int
def z25 : S25 := ⟨(⟨#[]⟩ : ByteArray), (0 : Int), (0 : Int), (0 : Int), (0 : Int), (0 : Int), (0 : Int), (⟨#[]⟩ : ByteArray), (0 : Int), (⟨#[]⟩ : ByteArray), (⟨#[]⟩ : ByteArray), (0 : Int), (0 : Int), (⟨#[]⟩ : ByteArray), ([] : List S49), false, (0 : Int)⟩
def k25 : Kd S25 := Kd.iso (Kd.pair Kd.string (Kd.pair (Kd.int .i64) (Kd.pair (Kd.int .i64) (Kd.pair (Kd.int .i64) (Kd.pair (Kd.int .i64) (Kd.pair (Kd.int .i64) (Kd.pair (Kd.int .u8) (Kd.pair Kd.string (Kd.pair (Kd.int .i64) (Kd.pair Kd.string (Kd.pair Kd.string (Kd.pair (Kd.int .i64) (Kd.pair (Kd.int .i64) (Kd.pair Kd.string (Kd.pair (Kd.slice 49 k49) (Kd.pair Kd.bool (Kd.int .i64))))))))))))))))) (fun x : S25 => (x.f0, x.f1, x.f2, x.f3, x.f4, x.f5, x.f6, x.f7, x.f8, x.f9, x.f10, x.f11, x.f12, x.f13, x.f14, x.f15, x.f16))
theorem k25_heap : Kd.Heap k25 := Kd.heap_iso _ (Kd.heap_pair Kd.heap_string (Kd.heap_pair (Kd.heap_int .i64) (Kd.heap_pair (Kd.heap_int .i64) (Kd.heap_pair (Kd.heap_int .i64) (Kd.heap_pair (Kd.heap_int .i64) (Kd.heap_pair (Kd.heap_int .i64) (Kd.heap_pair (Kd.heap_int .u8) (Kd.heap_pair Kd.heap_string (Kd.heap_pair (Kd.heap_int .i64) (Kd.heap_pair Kd.heap_string (Kd.heap_pair Kd.heap_string (Kd.heap_pair (Kd.heap_int .i64) (Kd.heap_pair (Kd.heap_int .i64) (Kd.heap_pair Kd.heap_string (Kd.heap_pair (Kd.heap_slice 49 k49_heap) (Kd.heap_pair Kd.heap_bool (Kd.heap_int .i64)))))))))))))))))
theorem k25_open {w : World} {x : S25} {cs : List Value} (h : k25.K w x cs) : ∃ A14 c14, cs = [.string x.f0, .int .i64 x.f1, .int .i64 x.f2, .int .i64 x.f3, .int .i64 x.f4, .int .i64 x.f5, .int .u8 x.f6, .string x.f7, .int .i64 x.f8, .string x.f9, .string x.f10, .int .i64 x.f11, .int .i64 x.f12, .string x.f13, .slice A14 x.f14.length c14, .bool x.f15, .int .i64 x.f16] ∧ x.f14.length ≤ c14 ∧ k49.C w A14 x.f14.length x.f14 := by
  obtain ⟨_, _, rfl, rfl, ⟨_, _, rfl, rfl, ⟨_, _, rfl, rfl, ⟨_, _, rfl, rfl, ⟨_, _, rfl, rfl, ⟨_, _, rfl, rfl, ⟨_, _, rfl, rfl, ⟨_, _, rfl, rfl, ⟨_, _, rfl, rfl, ⟨_, _, rfl, rfl, ⟨_, _, rfl, rfl, ⟨_, _, rfl, rfl, ⟨_, _, rfl, rfl, ⟨_, _, rfl, rfl, ⟨_, _, rfl, ⟨A14, c14, rfl, l14, g14⟩, ⟨_, _, rfl, rfl, rfl⟩⟩⟩⟩⟩⟩⟩⟩⟩⟩⟩⟩⟩⟩⟩⟩ := h
  exact ⟨A14, c14, rfl, l14, g14⟩
theorem k25_openM {w : World} {base : Nat} {ok : Nat → Prop} {x : S25} {cs : List Value} (h : k25.M w base ok x cs) : ∃ v14, cs = [.string x.f0, .int .i64 x.f1, .int .i64 x.f2, .int .i64 x.f3, .int .i64 x.f4, .int .i64 x.f5, .int .u8 x.f6, .string x.f7, .int .i64 x.f8, .string x.f9, .string x.f10, .int .i64 x.f11, .int .i64 x.f12, .string x.f13, v14, .bool x.f15, .int .i64 x.f16] ∧ k49.R 49 w base ok v14 x.f14 := by
  obtain ⟨_, _, rfl, rfl, ⟨_, _, rfl, rfl, ⟨_, _, rfl, rfl, ⟨_, _, rfl, rfl, ⟨_, _, rfl, rfl, ⟨_, _, rfl, rfl, ⟨_, _, rfl, rfl, ⟨_, _, rfl, rfl, ⟨_, _, rfl, rfl, ⟨_, _, rfl, rfl, ⟨_, _, rfl, rfl, ⟨_, _, rfl, rfl, ⟨_, _, rfl, rfl, ⟨_, _, rfl, rfl, ⟨_, _, rfl, ⟨v14, rfl, g14⟩, ⟨_, _, rfl, rfl, rfl⟩⟩⟩⟩⟩⟩⟩⟩⟩⟩⟩⟩⟩⟩⟩⟩ := h
  exact ⟨v14, rfl, g14⟩
theorem k25_mk (w : World) (x : S25) {A14 : Option Addr} {c14 : Nat} (l14 : x.f14.length ≤ c14) (g14 : k49.C w A14 x.f14.length x.f14) : k25.K w x [.string x.f0, .int .i64 x.f1, .int .i64 x.f2, .int .i64 x.f3, .int .i64 x.f4, .int .i64 x.f5, .int .u8 x.f6, .string x.f7, .int .i64 x.f8, .string x.f9, .string x.f10, .int .i64 x.f11, .int .i64 x.f12, .string x.f13, .slice A14 x.f14.length c14, .bool x.f15, .int .i64 x.f16] := ⟨[.string x.f0], [.int .i64 x.f1, .int .i64 x.f2, .int .i64 x.f3, .int .i64 x.f4, .int .i64 x.f5, .int .u8 x.f6, .string x.f7, .int .i64 x.f8, .string x.f9, .string x.f10, .int .i64 x.f11, .int .i64 x.f12, .string x.f13, .slice A14 x.f14.length c14, .bool x.f15, .int .i64 x.f16], rfl, rfl, ⟨[.int .i64 x.f1], [.int .i64 x.f2, .int .i64 x.f3, .int .i64 x.f4, .int .i64 x.f5, .int .u8 x.f6, .string x.f7, .int .i64 x.f8, .string x.f9, .string x.f10, .int .i64 x.f11, .int .i64 x.f12, .string x.f13, .slice A14 x.f14.length c14, .bool x.f15, .int .i64 x.f16], rfl, rfl, ⟨[.int .i64 x.f2], [.int .i64 x.f3, .int .i64 x.f4, .int .i64 x.f5, .int .u8 x.f6, .string x.f7, .int .i64 x.f8, .string x.f9, .string x.f10, .int .i64 x.f11, .int .i64 x.f12, .string x.f13, .slice A14 x.f14.length c14, .bool x.f15, .int .i64 x.f16], rfl, rfl, ⟨[.int .i64 x.f3], [.int .i64 x.f4, .int .i64 x.f5, .int .u8 x.f6, .string x.f7, .int .i64 x.f8, .string x.f9, .string x.f10, .int .i64 x.f11, .int .i64 x.f12, .string x.f13, .slice A14 x.f14.length c14, .bool x.f15, .int .i64 x.f16], rfl, rfl, ⟨[.int .i64 x.f4], [.int .i64 x.f5, .int .u8 x.f6, .string x.f7, .int .i64 x.f8, .string x.f9, .string x.f10, .int .i64 x.f11, .int .i64 x.f12, .string x.f13, .slice A14 x.f14.length c14, .bool x.f15, .int .i64 x.f16], rfl, rfl, ⟨[.int .i64 x.f5], [.int .u8 x.f6, .string x.f7, .int .i64 x.f8, .string x.f9, .string x.f10, .int .i64 x.f11, .int .i64 x.f12, .string x.f13, .slice A14 x.f14.length c14, .bool x.f15, .int .i64 x.f16], rfl, rfl, ⟨[.int .u8 x.f6], [.string x.f7, .int .i64 x.f8, .string x.f9, .string x.f10, .int .i64 x.f11, .int .i64 x.f12, .string x.f13, .slice A14 x.f14.length c14, .bool x.f15, .int .i64 x.f16], rfl, rfl, ⟨[.string x.f7], [.int .i64 x.f8, .string x.f9, .string x.f10, .int .i64 x.f11, .int .i64 x.f12, .string x.f13, .slice A14 x.f14.length c14, .bool x.f15, .int .i64 x.f16], rfl, rfl, ⟨[.int .i64 x.f8], [.string x.f9, .string x.f10, .int .i64 x.f11, .int .i64 x.f12, .string x.f13, .slice A14 x.f14.length c14, .bool x.f15, .int .i64 x.f16], rfl, rfl, ⟨[.string x.f9], [.string x.f10, .int .i64 x.f11, .int .i64 x.f12, .string x.f13, .slice A14 x.f14.length c14, .bool x.f15, .int .i64 x.f16], rfl, rfl, ⟨[.string x.f10], [.int .i64 x.f11, .int .i64 x.f12, .string x.f13, .slice A14 x.f14.length c14, .bool x.f15, .int .i64 x.f16], rfl, rfl, ⟨[.int .i64 x.f11], [.int .i64 x.f12, .string x.f13, .slice A14 x.f14.length c14, .bool x.f15, .int .i64 x.f16], rfl, rfl, ⟨[.int .i64 x.f12], [.string x.f13, .slice A14 x.f14.length c14, .bool x.f15, .int .i64 x.f16], rfl, rfl, ⟨[.string x.f13], [.slice A14 x.f14.length c14, .bool x.f15, .int .i64 x.f16], rfl, rfl, ⟨[.slice A14 x.f14.length c14], [.bool x.f15, .int .i64 x.f16], rfl, ⟨A14, c14, rfl, l14, g14⟩, ⟨[.bool x.f15], [.int .i64 x.f16], rfl, rfl, rfl⟩⟩⟩⟩⟩⟩⟩⟩⟩⟩⟩⟩⟩⟩⟩⟩
theorem k25_mkM (w : World) (base : Nat) (ok : Nat → Prop) (x : S25) {v14 : Value} (g14 : k49.R 49 w base ok v14 x.f14) : k25.M w base ok x [.string x.f0, .int .i64 x.f1, .int .i64 x.f2, .int .i64 x.f3, .int .i64 x.f4, .int .i64 x.f5, .int .u8 x.f6, .string x.f7, .int .i64 x.f8, .string x.f9, .string x.f10, .int .i64 x.f11, .int .i64 x.f12, .string x.f13, v14, .bool x.f15, .int .i64 x.f16] := ⟨[.string x.f0], [.int .i64 x.f1, .int .i64 x.f2, .int .i64 x.f3, .int .i64 x.f4, .int .i64 x.f5, .int .u8 x.f6, .string x.f7, .int .i64 x.f8, .string x.f9, .string x.f10, .int .i64 x.f11, .int .i64 x.f12, .string x.f13, v14, .bool x.f15, .int .i64 x.f16], rfl, rfl, ⟨[.int .i64 x.f1], [.int .i64 x.f2, .int .i64 x.f3, .int .i64 x.f4, .int .i64 x.f5, .int .u8 x.f6, .string x.f7, .int .i64 x.f8, .string x.f9, .string x.f10, .int .i64 x.f11, .int .i64 x.f12, .string x.f13, v14, .bool x.f15, .int .i64 x.f16], rfl, rfl, ⟨[.int .i64 x.f2], [.int .i64 x.f3, .int .i64 x.f4, .int .i64 x.f5, .int .u8 x.f6, .string x.f7, .int .i64 x.f8, .string x.f9, .string x.f10, .int .i64 x.f11, .int .i64 x.f12, .string x.f13, v14, .bool x.f15, .int .i64 x.f16], rfl, rfl, ⟨[.int .i64 x.f3], [.int .i64 x.f4, .int .i64 x.f5, .int .u8 x.f6, .string x.f7, .int .i64 x.f8, .string x.f9, .string x.f10, .int .i64 x.f11, .int .i64 x.f12, .string x.f13, v14, .bool x.f15, .int .i64 x.f16], rfl, rfl, ⟨[.int .i64 x.f4], [.int .i64 x.f5, .int .u8 x.f6, .string x.f7, .int .i64 x.f8, .string x.f9, .string x.f10, .int .i64 x.f11, .int .i64 x.f12, .string x.f13, v14, .bool x.f15, .int .i64 x.f16], rfl, rfl, ⟨[.int .i64 x.f5], [.int .u8 x.f6, .string x.f7, .int .i64 x.f8, .string x.f9, .string x.f10, .int .i64 x.f11, .int .i64 x.f12, .string x.f13, v14, .bool x.f15, .int .i64 x.f16], rfl, rfl, ⟨[.int .u8 x.f6], [.string x.f7, .int .i64 x.f8, .string x.f9, .string x.f10, .int .i64 x.f11, .int .i64 x.f12, .string x.f13, v14, .bool x.f15, .int .i64 x.f16], rfl, rfl, ⟨[.string x.f7], [.int .i64 x.f8, .string x.f9, .string x.f10, .int .i64 x.f11, .int .i64 x.f12, .string x.f13, v14, .bool x.f15, .int .i64 x.f16], rfl, rfl, ⟨[.int .i64 x.f8], [.string x.f9, .string x.f10, .int .i64 x.f11, .int .i64 x.f12, .string x.f13, v14, .bool x.f15, .int .i64 x.f16], rfl, rfl, ⟨[.string x.f9], [.string x.f10, .int .i64 x.f11, .int .i64 x.f12, .string x.f13, v14, .bool x.f15, .int .i64 x.f16], rfl, rfl, ⟨[.string x.f10], [.int .i64 x.f11, .int .i64 x.f12, .string x.f13, v14, .bool x.f15, .int .i64 x.f16], rfl, rfl, ⟨[.int .i64 x.f11], [.int .i64 x.f12, .string x.f13, v14, .bool x.f15, .int .i64 x.f16], rfl, rfl, ⟨[.int .i64 x.f12], [.string x.f13, v14, .bool x.f15, .int .i64 x.f16], rfl, rfl, ⟨[.string x.f13], [v14, .bool x.f15, .int .i64 x.f16], rfl, rfl, ⟨[v14], [.bool x.f15, .int .i64 x.f16], rfl, ⟨v14, rfl, g14⟩, ⟨[.bool x.f15], [.int .i64 x.f16], rfl, rfl, rfl⟩⟩⟩⟩⟩⟩⟩⟩⟩⟩⟩⟩⟩⟩⟩⟩
theorem k25_openF {W : World} {ok : Nat → Prop} {x : S25} {cs : List Value} (h : Kd.FK k25 W ok x cs) : ∃ A14 c14, cs = [.string x.f0, .int .i64 x.f1, .int .i64 x.f2, .int .i64 x.f3, .int .i64 x.f4, .int .i64 x.f5, .int .u8 x.f6, .string x.f7, .int .i64 x.f8, .string x.f9, .string x.f10, .int .i64 x.f11, .int .i64 x.f12, .string x.f13, .slice A14 x.f14.length c14, .bool x.f15, .int .i64 x.f16] ∧ x.f14.length ≤ c14 ∧ Kd.F k49 W ok A14 x.f14.length x.f14 := by
  obtain ⟨A14, c14, rfl, l14, _⟩ := k25_open (Kd.FK_now h)
  exact ⟨A14, c14, rfl, l14, (fun W' hW => by obtain ⟨A14_, c14_, he, l14_, g14_⟩ := k25_open (h W' hW); injection (Option.some.inj (show some (Value.slice A14 x.f14.length c14) = some (Value.slice A14_ x.f14.length c14_) from congrArg (fun l => l[14]?) he)) with ha_ _ _; rw [ha_]; exact g14_)⟩
theorem k25_mkF (W : World) (ok : Nat → Prop) (x : S25) {A14 : Option Addr} {c14 : Nat} (l14 : x.f14.length ≤ c14) (g14 : Kd.F k49 W ok A14 x.f14.length x.f14) : Kd.FK k25 W ok x [.string x.f0, .int .i64 x.f1, .int .i64 x.f2, .int .i64 x.f3, .int .i64 x.f4, .int .i64 x.f5, .int .u8 x.f6, .string x.f7, .int .i64 x.f8, .string x.f9, .string x.f10, .int .i64 x.f11, .int .i64 x.f12, .string x.f13, .slice A14 x.f14.length c14, .bool x.f15, .int .i64 x.f16] := fun W2 hW => k25_mk W2 x l14 (g14 W2 hW)
def rd_T25 (xs : List S25) (i : Int) : S25 := xs.getD i.toNat z25
theorem at_T25 {w : World} {A : Option Addr} {n : Nat} {xs : List S25} (h : Kd.C k25 w A n xs) (i : Int) (h0 : 0 ≤ i) (h1 : i < n) : ∃ ad A14 c14, A = some ad ∧ w.cell? (ad.add (i.toNat * 17)) = some (.string (rd_T25 xs i).f0) ∧ w.cell? ⟨(ad.add (i.toNat * 17)).block, (ad.add (i.toNat * 17)).off + 1, none⟩ = some (.int .i64 (rd_T25 xs i).f1) ∧ w.cell? ⟨(ad.add (i.toNat * 17)).block, (ad.add (i.toNat * 17)).off + 2, none⟩ = some (.int .i64 (rd_T25 xs i).f2) ∧ w.cell? ⟨(ad.add (i.toNat * 17)).block, (ad.add (i.toNat * 17)).off + 3, none⟩ = some (.int .i64 (rd_T25 xs i).f3) ∧ w.cell? ⟨(ad.add (i.toNat * 17)).block, (ad.add (i.toNat * 17)).off + 4, none⟩ = some (.int .i64 (rd_T25 xs i).f4) ∧ w.cell? ⟨(ad.add (i.toNat * 17)).block, (ad.add (i.toNat * 17)).off + 5, none⟩ = some (.int .i64 (rd_T25 xs i).f5) ∧ w.cell? ⟨(ad.add (i.toNat * 17)).block, (ad.add (i.toNat * 17)).off + 6, none⟩ = some (.int .u8 (rd_T25 xs i).f6) ∧ w.cell? ⟨(ad.add (i.toNat * 17)).block, (ad.add (i.toNat * 17)).off + 7, none⟩ = some (.string (rd_T25 xs i).f7) ∧ w.cell? ⟨(ad.add (i.toNat * 17)).block, (ad.add (i.toNat * 17)).off + 8, none⟩ = some (.int .i64 (rd_T25 xs i).f8) ∧ w.cell? ⟨(ad.add (i.toNat * 17)).block, (ad.add (i.toNat * 17)).off + 9, none⟩ = some (.string (rd_T25 xs i).f9) ∧ w.cell? ⟨(ad.add (i.toNat * 17)).block, (ad.add (i.toNat * 17)).off + 10, none⟩ = some (.string (rd_T25 xs i).f10) ∧ w.cell? ⟨(ad.add (i.toNat * 17)).block, (ad.add (i.toNat * 17)).off + 11, none⟩ = some (.int .i64 (rd_T25 xs i).f11) ∧ w.cell? ⟨(ad.add (i.toNat * 17)).block, (ad.add (i.toNat * 17)).off + 12, none⟩ = some (.int .i64 (rd_T25 xs i).f12) ∧ w.cell? ⟨(ad.add (i.toNat * 17)).block, (ad.add (i.toNat * 17)).off + 13, none⟩ = some (.string (rd_T25 xs i).f13) ∧ w.cell? ⟨(ad.add (i.toNat * 17)).block, (ad.add (i.toNat * 17)).off + 14, none⟩ = some (.slice A14 (rd_T25 xs i).f14.length c14) ∧ w.cell? ⟨(ad.add (i.toNat * 17)).block, (ad.add (i.toNat * 17)).off + 15, none⟩ = some (.bool (rd_T25 xs i).f15) ∧ w.cell? ⟨(ad.add (i.toNat * 17)).block, (ad.add (i.toNat * 17)).off + 16, none⟩ = some (.int .i64 (rd_T25 xs i).f16) ∧ (rd_T25 xs i).f14.length ≤ c14 ∧ k49.C w A14 (rd_T25 xs i).f14.length (rd_T25 xs i).f14 := by
  obtain ⟨ad, c, e, _, hK, hc0⟩ := Kd.C_get h z25 i h0 h1
  have hc : ∀ j u, c[j]? = some u → w.cell? (ad.add (i.toNat * 17 + j)) = some u := hc0
  obtain ⟨A14, c14, rfl, l14, g14⟩ := k25_open hK
  exact ⟨ad, A14, c14, e, hc 0 _ rfl, by rw [← add_field _ _ 1 (by omega)]; exact hc 1 _ rfl, by rw [← add_field _ _ 2 (by omega)]; exact hc 2 _ rfl, by rw [← add_field _ _ 3 (by omega)]; exact hc 3 _ rfl, by rw [← add_field _ _ 4 (by omega)]; exact hc 4 _ rfl, by rw [← add_field _ _ 5 (by omega)]; exact hc 5 _ rfl, by rw [← add_field _ _ 6 (by omega)]; exact hc 6 _ rfl, by rw [← add_field _ _ 7 (by omega)]; exact hc 7 _ rfl, by rw [← add_field _ _ 8 (by omega)]; exact hc 8 _ rfl, by rw [← add_field _ _ 9 (by omega)]; exact hc 9 _ rfl, by rw [← add_field _ _ 10 (by omega)]; exact hc 10 _ rfl, by rw [← add_field _ _ 11 (by omega)]; exact hc 11 _ rfl, by rw [← add_field _ _ 12 (by omega)]; exact hc 12 _ rfl, by rw [← add_field _ _ 13 (by omega)]; exact hc 13 _ rfl, by rw [← add_field _ _ 14 (by omega)]; exact hc 14 _ rfl, by rw [← add_field _ _ 15 (by omega)]; exact hc 15 _ rfl, by rw [← add_field _ _ 16 (by omega)]; exact hc 16 _ rfl, l14, g14⟩

end Go.Proofs.YtdeolcgabkkocaaDoor.P
