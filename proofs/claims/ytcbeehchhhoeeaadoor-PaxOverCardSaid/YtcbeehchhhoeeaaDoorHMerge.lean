/- The shelf's contracts of the library's functions at this seat, in plain words. The shelf's contracts on slices.Sorted(maps.Keys(m)) at this seat (the kit's tools wrote them). No conditions. slices.Grow at a nil slice of records: an empty slice. No conditions. slices.Concat of slices of records (made by the session's program over the kit's print). No conditions. pax.Merge: what it hands back for slices of records (up to a bound). No conditions. -/
import Derived.Shelf.SlGeneric
import Derived.Shelf.SlIter.Nil
import Derived.Shelf.SortM.Plain
import Derived.Shelf.SortM.SortNone
import Derived.Ground.GgzProg
import Derived.Ground.SlgmProg
import Derived.Test.YtcbeehchhhoeeaaDoorProg
import Derived.Test.YtcbeehchhhoeeaaDoorPx0
import Derived.Test.YtcbeehchhhoeeaaDoorHPaxL
import Derived.Maps.OwnOps
import Derived.Maps.OwnSet
import Derived.Maps.StringElems
import Derived.Sort.KeysCollected
import Derived.Deep.Slices
section
namespace Go.Proofs
open Go.Shelf
def Tryd.keys34_ren : Go.Shelf.Ren := ⟨fun | 7 => 34 | 10 => 49 | n => n, fun | 23 => 66 | 26 => 9 | 3 => 9 | 28 => 70 | 0 => 0 | 27 => 69 | 33 => 87 | 4 => 4 | n => n, fun | n => n⟩
theorem Tryd.keys34 : Go.Proofs.SlLaysZ.n7 Tryd.prog Tryd.keys34_ren := {
  mixed := by kernel_rfl
  f7 := ⟨Tryd.f34.name, by decide, Tryd.func34.trans (congrArg some (by kernel_rfl))⟩
  f10 := ⟨Tryd.f49.name, by decide, Tryd.func49.trans (congrArg some (by kernel_rfl))⟩
  t0 := Tryd.underlying0
  a0 := Tryd.isAgg0
  z0 := Tryd.sizeOf0
  v0 := Tryd.zeroValue0
  t4 := Tryd.underlying4
  a4 := Tryd.isAgg4
  z4 := Tryd.sizeOf4
  v4 := Tryd.zeroValue4
  t23 := Tryd.underlying66
  a23 := Tryd.isAgg66
  z23 := Tryd.sizeOf66
  v23 := Tryd.zeroValue66
  t26 := Tryd.underlying9
  a26 := Tryd.isAgg9
  z26 := Tryd.sizeOf9
  v26 := Tryd.zeroValue9
  t27 := Tryd.underlying69
  a27 := Tryd.isAgg69
  z27 := Tryd.sizeOf69
  v27 := Tryd.zeroValue69
  t28 := Tryd.underlying70
  a28 := Tryd.isAgg70
  z28 := Tryd.sizeOf70
  v28 := Tryd.zeroValue70
  t33 := Tryd.underlying87
  a33 := Tryd.isAgg87
  z33 := Tryd.sizeOf87
  v33 := Tryd.zeroValue87 }
def Tryd.sorted33_ren : Go.Shelf.Ren := ⟨fun | 6 => 33 | 8 => 47 | 9 => 48 | 11 => 59 | 13 => 61 | 12 => 60 | 23 => 80 | 24 => 81 | 14 => 71 | 15 => 72 | 16 => 73 | 17 => 74 | 18 => 75 | 19 => 76 | 20 => 77 | 21 => 78 | 22 => 79 | 25 => 92 | 26 => 93 | 27 => 94 | 28 => 95 | 29 => 96 | 30 => 97 | 31 => 105 | n => n, fun | 26 => 9 | 28 => 70 | 24 => 50 | 0 => 0 | 3 => 3 | 37 => 97 | 48 => 117 | 50 => 119 | 4 => 4 | 40 => 109 | 39 => 108 | 45 => 114 | 5 => 5 | 9 => 9 | 51 => 131 | 55 => 135 | 57 => 147 | 58 => 148 | 33 => 87 | n => n, fun | n => n⟩
theorem Tryd.sorted33 : Go.Proofs.SlLaysZ.n6 Tryd.prog Tryd.sorted33_ren := {
  mixed := by kernel_rfl
  f6 := ⟨Tryd.f33.name, by decide, Tryd.func33.trans (congrArg some (by kernel_rfl))⟩
  f8 := ⟨Tryd.f47.name, by decide, Tryd.func47.trans (congrArg some (by kernel_rfl))⟩
  f11 := ⟨Tryd.f59.name, by decide, Tryd.func59.trans (congrArg some (by kernel_rfl))⟩
  t0 := Tryd.underlying0
  a0 := Tryd.isAgg0
  z0 := Tryd.sizeOf0
  v0 := Tryd.zeroValue0
  t24 := Tryd.underlying50
  a24 := Tryd.isAgg50
  z24 := Tryd.sizeOf50
  v24 := Tryd.zeroValue50
  t26 := Tryd.underlying9
  a26 := Tryd.isAgg9
  z26 := Tryd.sizeOf9
  v26 := Tryd.zeroValue9
  t28 := Tryd.underlying70
  a28 := Tryd.isAgg70
  z28 := Tryd.sizeOf70
  v28 := Tryd.zeroValue70
  i26 := by kernel_rfl }
def Tryd.sort48_ren : Go.Shelf.Ren := ⟨fun | 6 => 48 | 8 => 61 | 9 => 60 | 19 => 80 | 20 => 81 | 21 => 71 | 22 => 72 | 23 => 73 | 24 => 74 | 25 => 75 | 26 => 76 | 27 => 77 | 28 => 78 | 29 => 79 | 36 => 92 | 31 => 93 | 32 => 94 | 37 => 95 | 38 => 96 | 39 => 97 | 41 => 105 | n => n, fun | 27 => 50 | 29 => 9 | 3 => 3 | 32 => 97 | 26 => 50 | 0 => 0 | 44 => 117 | 46 => 119 | 4 => 4 | 36 => 109 | 35 => 108 | 41 => 114 | 5 => 5 | 9 => 9 | 53 => 131 | 57 => 135 | 63 => 147 | 64 => 148 | n => n, fun | n => n⟩
theorem Tryd.sort48 : Go.Proofs.SlLaysM.n6 Tryd.prog Tryd.sort48_ren := {
  mixed := by kernel_rfl
  f6 := ⟨Tryd.f48.name, by decide, Tryd.func48.trans (congrArg some (by kernel_rfl))⟩
  f8 := Tryd.func61.trans (congrArg some (by kernel_rfl))
  f9 := ⟨Tryd.f60.name, by decide, Tryd.func60.trans (congrArg some (by kernel_rfl))⟩
  f19 := Tryd.func80.trans (congrArg some (by kernel_rfl))
  f20 := Tryd.func81.trans (congrArg some (by kernel_rfl))
  f21 := ⟨Tryd.f71.name, by decide, Tryd.func71.trans (congrArg some (by kernel_rfl))⟩
  f22 := ⟨Tryd.f72.name, by decide, Tryd.func72.trans (congrArg some (by kernel_rfl))⟩
  f23 := ⟨Tryd.f73.name, by decide, Tryd.func73.trans (congrArg some (by kernel_rfl))⟩
  f24 := ⟨Tryd.f74.name, by decide, Tryd.func74.trans (congrArg some (by kernel_rfl))⟩
  f25 := ⟨Tryd.f75.name, by decide, Tryd.func75.trans (congrArg some (by kernel_rfl))⟩
  f26 := ⟨Tryd.f76.name, by decide, Tryd.func76.trans (congrArg some (by kernel_rfl))⟩
  f27 := ⟨Tryd.f77.name, by decide, Tryd.func77.trans (congrArg some (by kernel_rfl))⟩
  f28 := ⟨Tryd.f78.name, by decide, Tryd.func78.trans (congrArg some (by kernel_rfl))⟩
  f29 := ⟨Tryd.f79.name, by decide, Tryd.func79.trans (congrArg some (by kernel_rfl))⟩
  f31 := Tryd.func93.trans (congrArg some (by kernel_rfl))
  f32 := Tryd.func94.trans (congrArg some (by kernel_rfl))
  f36 := ⟨Tryd.f92.name, by decide, Tryd.func92.trans (congrArg some (by kernel_rfl))⟩
  f37 := ⟨Tryd.f95.name, by decide, Tryd.func95.trans (congrArg some (by kernel_rfl))⟩
  f38 := ⟨Tryd.f96.name, by decide, Tryd.func96.trans (congrArg some (by kernel_rfl))⟩
  f39 := ⟨Tryd.f97.name, by decide, Tryd.func97.trans (congrArg some (by kernel_rfl))⟩
  f41 := ⟨Tryd.f105.name, by decide, Tryd.func105.trans (congrArg some (by kernel_rfl))⟩
  t0 := Tryd.underlying0
  a0 := Tryd.isAgg0
  z0 := Tryd.sizeOf0
  v0 := Tryd.zeroValue0
  t3 := Tryd.underlying3
  a3 := Tryd.isAgg3
  z3 := Tryd.sizeOf3
  v3 := Tryd.zeroValue3
  t4 := Tryd.underlying4
  a4 := Tryd.isAgg4
  z4 := Tryd.sizeOf4
  v4 := Tryd.zeroValue4
  t5 := Tryd.underlying5
  a5 := Tryd.isAgg5
  z5 := Tryd.sizeOf5
  v5 := Tryd.zeroValue5
  t9 := Tryd.underlying9
  a9 := Tryd.isAgg9
  z9 := Tryd.sizeOf9
  v9 := Tryd.zeroValue9
  t26 := Tryd.underlying50
  a26 := Tryd.isAgg50
  z26 := Tryd.sizeOf50
  v26 := Tryd.zeroValue50
  t27 := Tryd.underlying50
  a27 := Tryd.isAgg50
  z27 := Tryd.sizeOf50
  v27 := Tryd.zeroValue50
  t29 := Tryd.underlying9
  a29 := Tryd.isAgg9
  z29 := Tryd.sizeOf9
  v29 := Tryd.zeroValue9
  t32 := Tryd.underlying97
  a32 := Tryd.isAgg97
  z32 := Tryd.sizeOf97
  v32 := Tryd.zeroValue97
  t35 := Tryd.underlying108
  a35 := Tryd.isAgg108
  z35 := Tryd.sizeOf108
  v35 := Tryd.zeroValue108
  t36 := Tryd.underlying109
  a36 := Tryd.isAgg109
  z36 := Tryd.sizeOf109
  v36 := Tryd.zeroValue109
  t41 := Tryd.underlying114
  a41 := Tryd.isAgg114
  z41 := Tryd.sizeOf114
  v41 := Tryd.zeroValue114
  t44 := Tryd.underlying117
  a44 := Tryd.isAgg117
  z44 := Tryd.sizeOf117
  v44 := Tryd.zeroValue117
  t46 := Tryd.underlying119
  a46 := Tryd.isAgg119
  z46 := Tryd.sizeOf119
  v46 := Tryd.zeroValue119
  t53 := Tryd.underlying131
  a53 := Tryd.isAgg131
  z53 := Tryd.sizeOf131
  v53 := Tryd.zeroValue131
  t57 := Tryd.underlying135
  a57 := Tryd.isAgg135
  z57 := Tryd.sizeOf135
  v57 := Tryd.zeroValue135
  t63 := Tryd.underlying147
  a63 := Tryd.isAgg147
  z63 := Tryd.sizeOf147
  v63 := Tryd.zeroValue147
  t64 := Tryd.underlying148
  a64 := Tryd.isAgg148
  z64 := Tryd.sizeOf148
  v64 := Tryd.zeroValue148 }
end Go.Proofs
end

section
namespace Go.Proofs
open Go.RowKit Go.Maps Go.Sort Go.Shelf

-- maps.Keys[map[string]string,string,string] (function 34; its iterator 49) · slices.Sorted[string] (33) · slices.Sort[[]string,string] (48) · the map's type 66, the keys' 9

/-- slices.Sort's two contracts at this dump, at the fence that asks nothing. -/
theorem Tryd.sorts33 (m : Nat) : AnyZ.SortsIn Tryd.prog Tryd.sorted33_ren Fence.wide m :=
  ⟨fun blk off cap ss W hH hblk hsz => callsIn_wide.2 (AnyM.slices_Sort_string Tryd.sort48 blk off cap ss W hH hblk hsz),
   fun p cap W => callsIn_wide.2 (AnyM.slices_Sort_string_none Tryd.sort48 p cap W)⟩

/-- **maps.Keys[map[string]string,string,string], at whatever map, the nil one too:** a function value over ONE NEW BLOCK, which holds the map. -/
theorem Tryd.maps_Keys_34 (mb : Option Nat) (W : World) : CallsIn Fence.wide 5 Tryd.prog 34 #[.map mb] W fun e w' => e = .returned (.func (.func 49) #[] #[.pointer (some ⟨W.heap.size, 0, none⟩)]) ∧ w' = W.alloc (.cells #[.map mb] 66) :=
  AnyZ.keys_in Tryd.keys34 Fence.wide 5 trivial rfl mb W

set_option maxHeartbeats 1000000 in
/-- **slices.Sorted[string] AT WHAT maps.Keys[map[string]string,string,string] HANDED BACK FOR A MAP THAT IS NOT nil** ('w': the world AHEAD of maps.Keys' call): A NEW SLICE THAT HOLDS THE MAP's KEYS, SORTED; nil just where it has none; nothing that lay before has turned. -/
theorem Tryd.slices_Sorted_keys_33_34 {H : Type} (b nn : Nat) (D0 : DataW H) (R : Value → Option (DataW H × List MemPlace)) (w : World) (hown : w.ownsMap Tryd.prog 9 R b nn D0) (hmax : Maps.size D0 ≤ maxLen) (hbytes : Maps.size D0 * 16 ≤ 140737488355328) :
    CallsIn Fence.wide 5 Tryd.prog 33 #[.func (.func 49) #[] #[.pointer (some ⟨w.heap.size, 0, none⟩)]] (w.alloc (.cells #[.map (some b)] 66)) fun e w' => ∃ (v : Value) (ss : List (List UInt8)), e = .returned v ∧ ss.Perm (strKeys D0) ∧
      w'.ownsRow (w.alloc (.cells #[.map (some b)] 66)).heap.size 9 1 v ss.length ((ss.mergeSort (fun x y => decide (x ≤ y))).map encStr) ∧ (v = .slice none 0 0 ↔ ss = []) ∧ Below (w.alloc (.cells #[.map (some b)] 66)).heap.size (w.alloc (.cells #[.map (some b)] 66)) w' := by
  have hbl := hown.lt
  have hseq : SeqGives Fence.wide 2 Tryd.prog 49 #[.pointer (some ⟨w.heap.size, 0, none⟩)] encStr (fun ss => ss.Perm (strKeys D0)) (Maps.size D0) (w.alloc (.cells #[.map (some b)] 66)) :=
    AnyZ.keys_gives (ρ := Tryd.keys34_ren) { Tryd.keys34 with } Fence.wide _ trivial rfl (by omega) w.heap.size b nn D0 _ (by simp) (by simp) (by
      obtain ⟨es, clock, hb, Ft, hs, hD⟩ := hown
      exact ⟨es, clock, (Below.heap_alloc _ _ b hbl).trans hb, Ft, hs, hD⟩)
  exact AnyZ.sorted_in Tryd.sorted33 Fence.wide 5 trivial trivial trivial trivial rfl (by omega) (Tryd.sorts33 _) (enters_of Tryd.func48 (by kernel_rfl) rfl) 49 #[.pointer (some ⟨w.heap.size, 0, none⟩)] trivial (enters_of Tryd.func49 (by kernel_rfl) rfl) _ _ hmax hbytes _ hseq

set_option maxHeartbeats 1000000 in
/-- **.. AND FOR THE nil MAP: nil.** -/
theorem Tryd.slices_Sorted_keys_nil_33_34 (w : World) :
    CallsIn Fence.wide 5 Tryd.prog 33 #[.func (.func 49) #[] #[.pointer (some ⟨w.heap.size, 0, none⟩)]] (w.alloc (.cells #[.map none] 66)) fun e w' => ∃ (v : Value) (ss : List (List UInt8)), e = .returned v ∧ ss = [] ∧
      w'.ownsRow (w.alloc (.cells #[.map none] 66)).heap.size 9 1 v ss.length ((ss.mergeSort (fun x y => decide (x ≤ y))).map encStr) ∧ (v = .slice none 0 0 ↔ ss = []) ∧ Below (w.alloc (.cells #[.map none] 66)).heap.size (w.alloc (.cells #[.map none] 66)) w' := by
  have hseq : SeqGives Fence.wide 2 Tryd.prog 49 #[.pointer (some ⟨w.heap.size, 0, none⟩)] encStr (fun ss : List (List UInt8) => ss = []) 0 (w.alloc (.cells #[.map none] 66)) :=
    AnyZ.keys_gives_nil (ρ := Tryd.keys34_ren) { Tryd.keys34 with } Fence.wide _ trivial rfl w.heap.size _ (by simp) (by simp)
  exact AnyZ.sorted_in Tryd.sorted33 Fence.wide 5 trivial trivial trivial trivial rfl (by omega) (Tryd.sorts33 _) (enters_of Tryd.func48 (by kernel_rfl) rfl) 49 #[.pointer (some ⟨w.heap.size, 0, none⟩)] trivial (enters_of Tryd.func49 (by kernel_rfl) rfl) _ 0 (Nat.zero_le _) (by omega) _ hseq

end Go.Proofs
end

section
namespace Go.Proofs.YtcbeehchhhoeeaaDoor.P
open Go.RowKit Go.Proofs Go.Proofs.YtcbeehchhhoeeaaDoorW.PrintWords Go.Proofs.YtcbeehchhhoeeaaDoorW.PrintLast Go.Proofs.YtcbeehchhhoeeaaDoorW.PrintMore
attribute [local go_sem] max2_int min2_int max_two min_two max_three min_three max_four min_four
set_option linter.unusedVariables false
set_option linter.unusedSimpArgs false
def api_Rec_46.f (l : List S41) (n : Int) : Option (List S41) := if 0 ≤ n ∧ n ≤ 4398046511104 then some [] else none
set_option maxHeartbeats 4000000 in
set_option maxRecDepth 100000 in
theorem api_Rec_46.calls (a1 : Int) (r : List S41) (w : World) (h : api_Rec_46.f [] a1 = some r) :
    Calls Tryd.prog 46 #[.slice none 0 0, .int .i64 a1] w fun e w' => ∃ v0_ : Value, e = .returned v0_ ∧ Kd.R k41 41 w' w.heap.size (fun _ => True) v0_ r ∧ Below w.heap.size w w' := by
  unfold api_Rec_46.f at h
  by_cases hc : 0 ≤ a1 ∧ a1 ≤ 4398046511104
  · rw [if_pos hc] at h
    obtain rfl := Option.some.inj h
    clear h
    obtain ⟨h0, h1⟩ := hc
    have HB := Aside0.mk (Below.refl w.heap.size w)
    have c0 : decide (a1 < 0) = false := decide_eq_false (by omega)
    have hw : wrap64 a1 = a1 := by unfold wrap64; omega
    by_cases hz : 0 < a1
    · have c1 : decide (0 < a1) = true := decide_eq_true hz
      have H0 := Aside0.mk h0
      have H1 := Aside0.mk h1
      clear h0 h1
      go_enter Tryd.func46, Tryd.ntmps46
      go_wp2_with (first | ((with_reducible refine gate_builtin (b := .append) (xs := #[.tmp 20, .tmp 21]) rfl ?_); (try rw [hw]); at_builtin; refine Kd.R_append_zeros k41 (w0 := w) w.heap.size rfl (.tmp 20) (.tmp 21) 23 3 41 (.agg #[(.string ⟨#[]⟩), (.string ⟨#[]⟩)]) 32 rfl Tryd.underlying23 Tryd.underlying3 info41 rfl (by decide) (by decide) (.slice none 0 0) [] z41 a1 (fun _ => True) rfl rfl (k41_mkM _ _ _ z41) (fun _ _ => trivial) (Kd.R_nil _ _ _ _ _) H0.out HB.out (Nat.le_refl _) (by have := H1.out; simp; omega) ?_; intro v1 w1 hR hb hg _; rw [List.nil_append] at hR; have HR := Aside0.mk hR; have HB2 := Aside0.mk hb; clear hR hb hg; obtain ⟨A1, c1_, e1_⟩ := Kd.R_slice HR.out; subst e1_; obtain ⟨_, hle1, _⟩ := Kd.R_reads' HR.out; obtain ⟨i0, hi0, _, hsz0, _⟩ := info_parts info41; have hcut := cut_to (P := Tryd.prog) 23 41 .i64 Tryd.underlying23 hi0 A1 (List.replicate a1.toNat z41).length c1_ 0 (by omega) (by omega) hle1))
      go_ret
      exact ⟨_, rfl, Kd.R_take (m := 0) HR.out (Nat.zero_le _), HB2.out⟩
    · have c1 : decide (0 < a1) = false := decide_eq_false hz
      go_enter Tryd.func46, Tryd.ntmps46
      go_wp2
      go_ret
      exact ⟨_, rfl, Kd.R_nil _ _ _ _ _, HB.out⟩
  · rw [if_neg hc] at h
    cases h
end Go.Proofs.YtcbeehchhhoeeaaDoor.P
end

section
namespace Go.Proofs.YtcbeehchhhoeeaaDoor.P
open Go.RowKit Go.Proofs.YtcbeehchhhoeeaaDoorW.PrintWords Go.Proofs.YtcbeehchhhoeeaaDoorW.PrintLast Go.Proofs.YtcbeehchhhoeeaaDoorW.PrintMore
attribute [local go_sem] max2_int min2_int max_two min_two max_three min_three max_four min_four   -- for this text's walks alone
set_option linter.unusedVariables false
set_option linter.unusedSimpArgs false

/-! ### api_Rec_32: function 32 -/
mutual
def api_Rec_32.l0 : Nat → List (List (S41)) → Int → List (List (S41)) → Int → Int → Option ((List (S41)))
  | 0, _, _, _, _, _ => none
  | k + 1, x0, x3, x9, x10, x11 => if x11 < x10 then (if 0 ≤ x11 then (if x11 < (x9.length : Int) then (if (wrap64 (x3 + ((rd_L3 x9 x11).length : Int))) < 0 then (if 0 = 0 then (none) else (api_Rec_32.l0 k x0 (wrap64 (x3 + ((rd_L3 x9 x11).length : Int))) x9 x10 (wrap64 (x11 + 1)))) else (api_Rec_32.l0 k x0 (wrap64 (x3 + ((rd_L3 x9 x11).length : Int))) x9 x10 (wrap64 (x11 + 1)))) else (none)) else (none)) else ((api_Rec_46.f ([] : List (S41)) x3).bind fun t102 => (api_Rec_32.l1 k t102 x0 (x0.length : Int) 0))
def api_Rec_32.l1 : Nat → List (S41) → List (List (S41)) → Int → Int → Option ((List (S41)))
  | 0, _, _, _, _ => none
  | k + 1, x6, x25, x26, x27 => if x27 < x26 then (if 0 ≤ x27 then (if x27 < (x25.length : Int) then (if x6.length + (rd_L3 x25 x27).length < 4398046511104 then (api_Rec_32.l1 k (x6 ++ (rd_L3 x25 x27)) x25 x26 (wrap64 (x27 + 1))) else (none)) else (none)) else (none)) else (some x6)
end
def api_Rec_32.f (k : Nat) (l0 : List (List (S41))) : Option ((List (S41))) := api_Rec_32.l0 k l0 0 l0 (l0.length : Int) 0
theorem api_Rec_32.mono_l : ∀ k, (∀ y0 y1 y2 y3 y4, LeO (api_Rec_32.l0 k y0 y1 y2 y3 y4) (api_Rec_32.l0 (k + 1) y0 y1 y2 y3 y4)) ∧ (∀ y0 y1 y2 y3, LeO (api_Rec_32.l1 k y0 y1 y2 y3) (api_Rec_32.l1 (k + 1) y0 y1 y2 y3))
  | 0 => ⟨fun _ _ _ _ _ r h => by simp [api_Rec_32.l0] at h, fun _ _ _ _ r h => by simp [api_Rec_32.l1] at h⟩
  | k + 1 => by
    obtain ⟨ih0, ih1⟩ := api_Rec_32.mono_l k
    refine ⟨?_, ?_⟩
    · intro y0 y1 y2 y3 y4
      unfold api_Rec_32.l0
      repeat' first
      | (with_reducible exact ih0 _ _ _ _ _)
      | (with_reducible exact ih1 _ _ _ _)
      | (with_reducible exact LeO.refl _)
      | (with_reducible exact LeO.none _)
      | (with_reducible refine LeO.ite ?_ ?_)
      | (with_reducible refine LeO.bind ?_ (fun _ => ?_))
      | exact ih0 _ _ _ _ _
      | exact ih1 _ _ _ _
      | exact LeO.none _
      | refine LeO.ite ?_ ?_
      | refine LeO.bind ?_ (fun _ => ?_)
    · intro y0 y1 y2 y3
      unfold api_Rec_32.l1
      repeat' first
      | (with_reducible exact ih0 _ _ _ _ _)
      | (with_reducible exact ih1 _ _ _ _)
      | (with_reducible exact LeO.refl _)
      | (with_reducible exact LeO.none _)
      | (with_reducible refine LeO.ite ?_ ?_)
      | (with_reducible refine LeO.bind ?_ (fun _ => ?_))
      | exact ih0 _ _ _ _ _
      | exact ih1 _ _ _ _
      | exact LeO.none _
      | refine LeO.ite ?_ ?_
      | refine LeO.bind ?_ (fun _ => ?_)
theorem api_Rec_32.mono : ∀ a0 k, LeO (api_Rec_32.f k a0) (api_Rec_32.f (k + 1) a0) := by
  intro a0 k
  obtain ⟨ih0, ih1⟩ := api_Rec_32.mono_l k
  unfold api_Rec_32.f
  repeat' first
      | (with_reducible exact ih0 _ _ _ _ _)
      | (with_reducible exact ih1 _ _ _ _)
      | (with_reducible exact LeO.refl _)
      | (with_reducible exact LeO.none _)
      | (with_reducible refine LeO.ite ?_ ?_)
      | (with_reducible refine LeO.bind ?_ (fun _ => ?_))
      | exact ih0 _ _ _ _ _
      | exact ih1 _ _ _ _
      | exact LeO.none _
      | refine LeO.ite ?_ ?_
      | refine LeO.bind ?_ (fun _ => ?_)
set_option maxHeartbeats 8000000 in
set_option maxRecDepth 100000 in
theorem api_Rec_32.calls (k : Nat) (A0 : Option Addr) (c0 : Nat) (l0 : List (List (S41))) (r : List (S41)) (w : World) (hr0 : Kd.C (Kd.slice 41 k41) w A0 l0.length l0) (hc0 : l0.length ≤ c0) (h : api_Rec_32.f k l0 = some r) :
    Calls Tryd.prog 32 #[.slice A0 l0.length c0] w fun e w' => ∃ v0_ : Value, e = .returned (v0_) ∧ Kd.R k41 41 w' w.heap.size (fun _ => True) v0_ r ∧ Below w.heap.size w w' := by
  have HR0 := Aside0.mk hr0
  have HC0 := Aside0.mk hc0
  clear hr0 hc0
  have HB := Aside0.mk (Below.refl w.heap.size w)
  have H : (api_Rec_32.l0 k l0 0 l0 (l0.length : Int) 0) = some r := h
  clear h
  have H' := Aside0.mk H
  clear H
  go_enter Tryd.func32, Tryd.ntmps32
  go_wp2
  go_loopg [3, 11] k (fun kq v3 v11 w' => ∃ (x3_1 : Int) (x11_1 : Int), v3 = .int .i64 x3_1 ∧ v11 = .int .i64 x11_1 ∧ Aside0 (api_Rec_32.l0 kq l0 x3_1 l0 (l0.length : Int) x11_1 = some r) ∧ Aside0 (kq ≤ k) ∧ Aside0 (Below w.heap.size w w'))
  case atStart => exact ⟨(0), (0), (by first | rfl | (simp; done) | (simp [*]; done)), (by first | rfl | (simp; done) | (simp [*]; done)), H', ⟨Nat.le_refl _⟩, ⟨by repeat (first | (with_reducible first | exact HB.out | apply below_alloc | apply pw_below_drewN | apply below_drew1) | exact HB.out)⟩⟩
  case round =>
    clear H'
    obtain ⟨x3_1, x11_1, rfl, rfl, HA, HK1, HB⟩ := hrel
    cases gk with
    | zero => exact absurd HA.out (by simp [api_Rec_32.l0])
    | succ k1 =>
      have H := HA.out
      clear HA
      simp only [api_Rec_32.l0] at H
      by_cases c2 : x11_1 < (l0.length : Int)
      · rw [if_pos c2] at H
        have c2b0 : decide (x11_1 < (l0.length : Int)) = true := decide_eq_true c2
        clear c2
        by_cases c3 : 0 ≤ x11_1
        · rw [if_pos c3] at H
          have c3b0 : decide (0 ≤ x11_1) = true := decide_eq_true c3
          clear c3
          by_cases c4 : x11_1 < (l0.length : Int)
          · rw [if_pos c4] at H
            have c4b0 : decide (x11_1 < (l0.length : Int)) = true := decide_eq_true c4
            clear c4
            by_cases c5 : (wrap64 (x3_1 + ((rd_L3 l0 x11_1).length : Int))) < 0
            · rw [if_pos c5] at H
              have c5b0 : decide ((wrap64 (x3_1 + ((rd_L3 l0 x11_1).length : Int))) < 0) = true := decide_eq_true c5
              clear c5
              exact absurd H (by simp)
            · rw [if_neg c5] at H
              have c5b0 : decide ((wrap64 (x3_1 + ((rd_L3 l0 x11_1).length : Int))) < 0) = false := decide_eq_false c5
              clear c5
              have H' := Aside0.mk H
              clear H
              have p101 : 0 ≤ (x11_1 : Int) := of_decide_eq_true (by first | (with_reducible assumption) | assumption)
              have q101 : x11_1 < (l0.length : Int) := of_decide_eq_true (by first | (with_reducible assumption) | assumption)
              obtain ⟨ad101, A101_0, c101_0, e101, hx101_0, hl101_0, hi101_0⟩ := at_L3 HR0.out x11_1 p101 q101
              cases e101
              replace hx101_0 := (HB.out.cell (World.block_lt_of_cell? w _ hx101_0)).trans hx101_0
              have HR101_0 := Aside0.mk hi101_0
              have HC101_0 := Aside0.mk hl101_0
              clear hi101_0 hl101_0
              replace p101 := eq_true p101
              replace q101 := eq_true q101
              go_wp2
              go_roundg k1
              case measure => have := HK1.out; omega
              case rel => exact ⟨(wrap64 (x3_1 + ((rd_L3 l0 x11_1).length : Int))), (wrap64 (x11_1 + 1)), (by first | rfl | (simp; done) | (simp [*]; done)), (by first | rfl | (simp; done) | (simp [*]; done)), H', ⟨by have := HK1.out; omega⟩, ⟨by repeat (first | (with_reducible first | exact HB.out | apply below_alloc | apply pw_below_drewN | apply below_drew1) | exact HB.out)⟩⟩
          · rw [if_neg c4] at H
            exact absurd H (by simp)
        · rw [if_neg c3] at H
          exact absurd H (by simp)
      · rw [if_neg c2] at H
        have c2b0 : decide (x11_1 < (l0.length : Int)) = false := decide_eq_false c2
        clear c2
        replace H := Option.bind_eq_some_iff.mp H
        obtain ⟨t102, A70, H⟩ := H
        replace H : (api_Rec_32.l1 k1 t102 l0 (l0.length : Int) 0) = some r := H
        have A7 := Aside0.mk A70
        clear A70
        have H' := Aside0.mk H
        clear H
        go_wp2_with (first | ((with_reducible refine gate_callee (f := 46) rfl ?_); refine goesL_ (some 24) rfl rfl Tryd.func46 (by kernel_rfl) rfl #[.slice none 0 0, .int .i64 x3_1] rfl (by (try simp only [List.map_toArray, List.map_cons, List.map_nil]); first | done | rfl | (simp only [List.length_drop, List.length_take]; rfl)) ?_; (refine (api_Rec_46.calls x3_1 t102 _ A7.out).mono ?_); rintro e w8 ⟨v103, rfl, ho0, hb⟩; refine ⟨_, rfl, ?_⟩; have n0_ := Aside0.mk (Kd.R_lower ho0 (below_size (by repeat (first | (with_reducible first | exact HB.out | apply below_alloc | apply pw_below_drewN | apply below_drew1) | exact HB.out)))); have n1_ := Aside0.mk (below_step (by repeat (first | (with_reducible first | exact HB.out | apply below_alloc | apply pw_below_drewN | apply below_drew1) | exact HB.out)) hb); clear HB; have HO104 := n0_; have HB := n1_; clear n0_ n1_; (try clear hb); (try clear hb2); (try clear hk); (try clear hi); (try clear ho0)))
        go_loopg [6, 27] k1 (fun kq v6 v27 w' => ∃ (x6_2 : List (S41)) (x27_2 : Int), v27 = .int .i64 x27_2 ∧ Aside0 (api_Rec_32.l1 kq x6_2 l0 (l0.length : Int) x27_2 = some r) ∧ Aside0 (kq ≤ k1) ∧ Aside0 (Kd.R k41 41 w' w.heap.size (fun _ => True) v6 x6_2) ∧ Aside0 (Below w.heap.size w w'))
        case atStart => exact ⟨(t102), (0), (by first | rfl | (simp; done) | (simp [*]; done)), H', ⟨Nat.le_refl _⟩, ⟨by (with_reducible repeat (first | apply Kd.R_alloc | apply Kd.R_drewN | apply Kd.R_drew)); exact HO104.out⟩, ⟨by repeat (first | (with_reducible first | exact HB.out | apply below_alloc | apply pw_below_drewN | apply below_drew1) | exact HB.out)⟩⟩
        case round =>
          clear H'
          try clear c1
          try clear p1
          try clear q1
          try clear hx1
          try clear c2
          try clear c2b0
          try clear p2
          try clear c3
          try clear c3b0
          try clear c4
          try clear c4b0
          try clear c5
          try clear c5b0
          try clear c6
          try clear c6b0
          try clear c6b1
          try clear p6
          try clear hx101_0
          try clear p101
          try clear q101
          obtain ⟨x6_2, x27_2, rfl, HA, HK2, HO_6, HB⟩ := hrel
          cases gk with
          | zero => exact absurd HA.out (by simp [api_Rec_32.l1])
          | succ k2 =>
            have H := HA.out
            clear HA
            simp only [api_Rec_32.l1] at H
            by_cases c9 : x27_2 < (l0.length : Int)
            · rw [if_pos c9] at H
              have c9b0 : decide (x27_2 < (l0.length : Int)) = true := decide_eq_true c9
              clear c9
              by_cases c10 : 0 ≤ x27_2
              · rw [if_pos c10] at H
                have c10b0 : decide (0 ≤ x27_2) = true := decide_eq_true c10
                clear c10
                by_cases c11 : x27_2 < (l0.length : Int)
                · rw [if_pos c11] at H
                  have c11b0 : decide (x27_2 < (l0.length : Int)) = true := decide_eq_true c11
                  clear c11
                  by_cases c12 : x6_2.length + (rd_L3 l0 x27_2).length < 4398046511104
                  · rw [if_pos c12] at H
                    have LMc12 := Aside0.mk c12
                    clear c12
                    obtain ⟨y106, hy106⟩ : ∃ y_ : List (S41), y_ = (x6_2 ++ (rd_L3 l0 x27_2)) := ⟨_, rfl⟩
                    replace H : (api_Rec_32.l1 k2 y106 l0 (l0.length : Int) (wrap64 (x27_2 + 1))) = some r := by first | (rw [hy106]; with_reducible exact H) | (have H2_ := (Option.bind_some _ _).symm.trans H; rw [hy106]; with_reducible exact H2_) | (have H2_ := (Option.bind_some _ _).symm.trans H; with_reducible exact H2_) | with_reducible exact H | (rw [hy106]; exact H) | exact H
                    have Ny106 := Aside0.mk hy106
                    clear hy106
                    have H' := Aside0.mk H
                    clear H
                    have p105 : 0 ≤ (x27_2 : Int) := of_decide_eq_true (by first | (with_reducible assumption) | assumption)
                    have q105 : x27_2 < (l0.length : Int) := of_decide_eq_true (by first | (with_reducible assumption) | assumption)
                    obtain ⟨ad105, A105_0, c105_0, e105, hx105_0, hl105_0, hi105_0⟩ := at_L3 HR0.out x27_2 p105 q105
                    cases e105
                    replace hx105_0 := (HB.out.cell (World.block_lt_of_cell? w _ hx105_0)).trans hx105_0
                    have HR105_0 := Aside0.mk hi105_0
                    have HC105_0 := Aside0.mk hl105_0
                    clear hi105_0 hl105_0
                    replace p105 := eq_true p105
                    replace q105 := eq_true q105
                    go_wp2_with (first | ((with_reducible refine gate_builtin (b := .append) (xs := #[.tmp 31, .tmp 32]) rfl ?_); at_builtin; refine Kd.R_append_rows k41 (w0 := w) w.heap.size rfl (.tmp 31) (.tmp 32) 23 41 (.agg #[(.string ⟨#[]⟩), (.string ⟨#[]⟩)]) 32 rfl Tryd.underlying23 info41 rfl (by decide) (by omega) u6 x6_2 (rd_L3 l0 x27_2) _ _ _ (fun _ => True) (fun _ => False) rfl rfl ?aO ?aR (fun _ _ h => h) (fun _ h => h.elim) ?aF ?aB ?aS ?aL ?_; (case aR => repeat (first | exact (Kd.C_below HR105_0.out HB.out) | (with_reducible refine Kd.C_alloc ?_ _) | (with_reducible refine Kd.C_drewN ?_ _) | (with_reducible refine Kd.C_drew ?_))); (case aB => exact (by repeat (first | (with_reducible first | exact HB.out | apply below_alloc | apply pw_below_drewN | apply below_drew1) | exact HB.out))); (case aF => exact (fun _ _ => trivial)); (case aO => exact (by (with_reducible repeat (first | apply Kd.R_alloc | apply Kd.R_drewN | apply Kd.R_drew)); exact HO_6.out)); (case aS => exact (below_size (by repeat (first | (with_reducible first | exact HB.out | apply below_alloc | apply pw_below_drewN | apply below_drew1) | exact HB.out)))); (case aL => have := LMc12.out; omega); intro v107 w13 ho hb hg hat; rw [← Ny106.out] at ho; have n0_ := Aside0.mk (hb); have n1_ := Aside0.mk (ho); clear HB; clear HO_6; have HB := n0_; have HO108 := n1_; clear n0_ n1_; clear ho hb hg hat))
                    go_roundg k2
                    case measure => have := HK1.out; have := HK2.out; omega
                    case rel => exact ⟨(y106), (wrap64 (x27_2 + 1)), (by first | rfl | (simp; done) | (simp [*]; done)), H', ⟨by have := HK1.out; have := HK2.out; omega⟩, ⟨by (with_reducible repeat (first | apply Kd.R_alloc | apply Kd.R_drewN | apply Kd.R_drew)); exact HO108.out⟩, ⟨by repeat (first | (with_reducible first | exact HB.out | apply below_alloc | apply pw_below_drewN | apply below_drew1) | exact HB.out)⟩⟩
                  · rw [if_neg c12] at H
                    exact absurd H (by simp)
                · rw [if_neg c11] at H
                  exact absurd H (by simp)
              · rw [if_neg c10] at H
                exact absurd H (by simp)
            · rw [if_neg c9] at H
              have c9b0 : decide (x27_2 < (l0.length : Int)) = false := decide_eq_false c9
              clear c9
              obtain rfl := Option.some.inj H
              go_wp2
              go_ret
              exact ⟨_, by first | rfl | (simp [errW_none, errW_some] <;> rfl) | (simp [*, errW_none, errW_some] <;> rfl), by (with_reducible repeat (first | apply Kd.R_alloc | apply Kd.R_drewN | apply Kd.R_drew)); exact HO_6.out, by repeat (first | (with_reducible first | exact HB.out | apply below_alloc | apply pw_below_drewN | apply below_drew1) | exact HB.out)⟩

end Go.Proofs.YtcbeehchhhoeeaaDoor.P
end

section
namespace Go.Proofs.YtcbeehchhhoeeaaDoor.P
open Go Go.RowKit Go.Shelf Go.Lib Go.Maps Go.Sort Go.Proofs Go.Proofs.YtcbeehchhhoeeaaDoorW.PrintWords Go.Proofs.YtcbeehchhhoeeaaDoorW.PrintLast Go.Proofs.YtcbeehchhhoeeaaDoorW.PrintMore
attribute [local go_sem] max2_int min2_int max_two min_two max_three min_three max_four min_four
set_option linter.unusedVariables false
set_option linter.unusedSimpArgs false

/-- A map's datum: the records' keys with the last value of each. -/
def mapD (l : List S41) : DataW Unit := l.foldl (fun m p => m.put (.string p.f0.data.toList) (.lit (.string p.f1.data.toList))) (.map [])
theorem mapD_snoc (l : List S41) (p : S41) : mapD (l ++ [p]) = (mapD l).put (.string p.f0.data.toList) (.lit (.string p.f1.data.toList)) := by simp [mapD, List.foldl_append]
def valD (D : DataW Unit) (k : List UInt8) : List UInt8 := match D.atKey (.string k) (.lit (.string [])) with
  | .lit (.string b) => b
  | _ => []
def keepD (D : DataW Unit) (ks : List (List UInt8)) : List S41 := ks.flatMap fun k => if valD D k = [] then [] else [⟨tx k, tx (valD D k)⟩]
def mergeL (l : List S41) : List S41 := keepD (mapD l) ((strKeys (mapD l)).mergeSort leB)
def pax_Merge.f (l0 l1 : List S41) : Option (List S41) := if l0.length + l1.length ≤ 4000000000 ∧ (l0 ++ l1).all (fun p => decide (p.f0.size ≤ 9223372036854775807) && decide (p.f1.size ≤ 9223372036854775807)) = true then some (mergeL (l0 ++ l1)) else none
theorem rd_two0 (a b : List S41) : rd_L3 [a, b] 0 = a := rfl
theorem rd_two1 (a b : List S41) : rd_L3 [a, b] 1 = b := rfl
theorem concat_eq (l0 l1 : List S41) (h : l0.length + l1.length ≤ 4000000000) : api_Rec_32.f 9 [l0, l1] = some (l0 ++ l1) := by
  have w0 : wrap64 (0 + (l0.length : Int)) = (l0.length : Int) := by unfold wrap64; omega
  have w1 : wrap64 ((l0.length : Int) + (l1.length : Int)) = ((l0.length + l1.length : Nat) : Int) := by unfold wrap64; omega
  have w2 : wrap64 ((0 : Int) + 1) = 1 := by unfold wrap64; omega
  have w3 : wrap64 ((1 : Int) + 1) = 2 := by unfold wrap64; omega
  have hg : api_Rec_46.f ([] : List S41) ((l0.length + l1.length : Nat) : Int) = some [] := by unfold api_Rec_46.f; rw [if_pos ⟨by omega, by omega⟩]
  have e2 : (([l0, l1] : List (List S41)).length : Int) = 2 := rfl
  unfold api_Rec_32.f
  rw [e2, api_Rec_32.l0, if_pos (by omega), if_pos (by omega), if_pos (by omega), rd_two0, w0, if_neg (by omega), w2, api_Rec_32.l0, if_pos (by omega), if_pos (by omega), if_pos (by omega), rd_two1, w1, if_neg (by omega), w3, api_Rec_32.l0, if_neg (by omega), hg, Option.bind_some]
  rw [e2, api_Rec_32.l1, if_pos (by omega), if_pos (by omega), if_pos (by omega), rd_two0, if_pos (by simp; omega), w2, List.nil_append, api_Rec_32.l1, if_pos (by omega), if_pos (by omega), if_pos (by omega), rd_two1, if_pos (by omega), w3, api_Rec_32.l1, if_neg (by omega)]
/-- 'm[k]' at elements that are strings. -/
theorem lookup_string {k e t : TypeId} {w : World} {b n : Nat} {D : DataW Unit} (h : w.ownsMap Tryd.prog k (plainElem Tryd.prog e) b n D) (K : Keyed Tryd.prog k) (ht : Tryd.prog.underlying t = some (.map k e)) (he : Tryd.prog.underlying e = some .string) (hz : (zeroValue e).run Tryd.prog w = .ok (.string (⟨#[]⟩ : ByteArray)) w)
    {s : ByteArray} (hkey : keyOf Tryd.prog k (.string s) = some (.string s.data.toList)) : (Instr.lookup t (.map (some b)) (.string s) false).run Tryd.prog w = .ok (.string (tx (valD D s.data.toList))) w := by
  obtain ⟨v, ps, hrun, hv⟩ := h.lookup K ht hz (plainElem_string he (s := (⟨#[]⟩ : ByteArray)) (by decide)) hkey
  obtain ⟨c, rfl, hc, hwc⟩ := plainElem_string_inv he hv
  simp only [Prod.mk.injEq] at hc
  rw [hrun]
  have e : D.atKey (.string s.data.toList) (.lit (.string [])) = .lit (.string c.data.toList) := hc.1
  have e2 : tx (valD D s.data.toList) = c := by
    unfold valD
    rw [e]
    cases c
    rfl
  rw [e2]
theorem two_C {W : World} {g : Nat} {A0 A1 : Option Addr} {c0 c1 : Nat} {l0 l1 : List S41} (hb : W.heap[g]? = some (.cells #[.slice A0 l0.length c0, .slice A1 l1.length c1] 23 (0, 0))) (h0 : Kd.C k41 W A0 l0.length l0) (h1 : Kd.C k41 W A1 l1.length l1) (hc0 : l0.length ≤ c0) (hc1 : l1.length ≤ c1) :
    Kd.C (Kd.slice 41 k41) W (some ⟨g, 0, none⟩) 2 ([l0, l1] : List (List S41)) := by
  refine ⟨rfl, by decide, fun _ => ⟨_, rfl, fun j p hj => ?_⟩⟩
  match j, hj with
  | 0, hj =>
    obtain rfl := Option.some.inj hj
    refine ⟨[.slice A0 l0.length c0], rfl, ⟨A0, c0, rfl, hc0, h0⟩, fun i u hu => ?_⟩
    match i, hu with
    | 0, hu => obtain rfl := Option.some.inj hu; exact (blk_cell hb 0).trans rfl
  | 1, hj =>
    obtain rfl := Option.some.inj hj
    refine ⟨[.slice A1 l1.length c1], rfl, ⟨A1, c1, rfl, hc1, h1⟩, fun i u hu => ?_⟩
    match i, hu with
    | 0, hu => obtain rfl := Option.some.inj hu; exact (blk_cell hb 1).trans rfl
/-- The sorted keys, as a row of strings. -/
def ksD (D : DataW Unit) : List ByteArray := ((strKeys D).mergeSort leB).map tx
theorem keys_row {W : World} {base b2 : Nat} {v : Value} {D : DataW Unit} {ss : List (List UInt8)} (hb : base ≤ b2) (hS : ss.Perm (strKeys D)) (hrow : W.ownsRow b2 9 1 v ss.length ((ss.mergeSort (fun x y => decide (x ≤ y))).map encStr)) : Kd.R Kd.string 9 W base (fun _ => True) v (ksD D) := by
  have e : ss.mergeSort (fun x y => decide (x ≤ y)) = (strKeys D).mergeSort leB := mergeSort_of_perm hS
  have el : ss.length = (ksD D).length := by unfold ksD; rw [List.length_map, ← e, List.length_mergeSort]
  have ee : (ss.mergeSort (fun x y => decide (x ≤ y))).map encStr = encs Value.string (ksD D) := by
    rw [e]
    unfold ksD
    simp only [encs, List.map_map]
    rfl
  rw [el, ee] at hrow
  exact Kd.R_lower (Kd.R_of_own (enc := Value.string) (h1 := fun _ => rfl) hrow (fun _ _ => trivial)) hb
theorem hks2 (K : List (List UInt8)) : (K.map tx).length = K.length := List.length_map _
theorem keepD_snoc (D : DataW Unit) (K : List (List UInt8)) (j : Nat) (h : j < K.length) : keepD D (K.take (j + 1)) = keepD D (K.take j) ++ (if valD D K[j] = [] then [] else [⟨tx K[j], tx (valD D K[j])⟩]) := by
  rw [List.take_succ_eq_append_getElem h]
  unfold keepD
  rw [List.flatMap_append]
  simp
theorem keepD_len (D : DataW Unit) (K : List (List UInt8)) : ∀ j, (keepD D (K.take j)).length ≤ j
  | 0 => by simp [keepD]
  | j + 1 => by
    have := keepD_len D K j
    rcases Nat.lt_or_ge j K.length with h | h
    · rw [keepD_snoc D K j h, List.length_append]
      split <;> simp <;> omega
    · rw [List.take_of_length_le h] at this
      rw [List.take_of_length_le (by omega)]
      omega
theorem owns_row {W W1 : World} {k e e' : TypeId} {b n : Nat} {D : DataW Unit} {v : Value} (h : W.ownsMap Tryd.prog k (plainElem Tryd.prog e) b n D) (hty : ∀ q, v.ownBlock = some q → ∃ cells, W.heap[q]? = some (.cells cells e' (0, 0))) (hg : W.grownBy W1 v.ownBlock) : W1.ownsMap Tryd.prog k (plainElem Tryd.prog e) b n D := by
  refine h.kept hg (fun he => ?_)
  obtain ⟨cells, hc⟩ := hty b he.symm
  obtain ⟨es, clock, h1, _⟩ := h
  rw [h1] at hc
  cases hc
theorem owns_below {W W1 : World} {k e : TypeId} {b n : Nat} {D : DataW Unit} (h : W.ownsMap Tryd.prog k (plainElem Tryd.prog e) b n D) (hb : Below W.heap.size W W1) : W1.ownsMap Tryd.prog k (plainElem Tryd.prog e) b n D := by
  have hl := h.lt
  obtain ⟨es, clock, h1, h2⟩ := h
  exact ⟨es, clock, (hb.block b hl).trans h1, h2⟩
theorem all_at {all : List S41} (h : all.all (fun p => decide (p.f0.size ≤ 9223372036854775807) && decide (p.f1.size ≤ 9223372036854775807)) = true) (i : Nat) (hi : i < all.length) : (rd_T41 all (i : Int)).f0.size ≤ maxLen ∧ (rd_T41 all (i : Int)).f1.size ≤ maxLen := by
  have := List.all_eq_true.1 h _ (rd_mem all i hi)
  rw [Bool.and_eq_true, decide_eq_true_iff, decide_eq_true_iff] at this
  exact this
set_option maxHeartbeats 8000000 in
set_option maxRecDepth 100000 in
theorem pax_Merge.calls (A0 : Option Addr) (c0 : Nat) (l0 : List S41) (A1 : Option Addr) (c1 : Nat) (l1 : List S41) (r : List S41) (w : World) (hr0 : Kd.C k41 w A0 l0.length l0) (hc0 : l0.length ≤ c0) (hr1 : Kd.C k41 w A1 l1.length l1) (hc1 : l1.length ≤ c1) (h : pax_Merge.f l0 l1 = some r) :
    Calls Tryd.prog 20 #[.slice A0 l0.length c0, .slice A1 l1.length c1] w fun e w' => ∃ v0_ : Value, e = .returned v0_ ∧ Kd.R k41 41 w' w.heap.size (fun _ => True) v0_ r ∧ Below w.heap.size w w' := by
  have hu41 := Tryd.underlying41
  unfold pax_Merge.f at h
  by_cases hc : l0.length + l1.length ≤ 4000000000 ∧ (l0 ++ l1).all (fun p => decide (p.f0.size ≤ 9223372036854775807) && decide (p.f1.size ≤ 9223372036854775807)) = true
  · rw [if_pos hc] at h
    obtain ⟨hlen, hall⟩ := hc
    have HV := Aside0.mk (Option.some.inj h)
    have hcat := concat_eq l0 l1 hlen
    obtain ⟨all, hall2⟩ : ∃ all, all = l0 ++ l1 := ⟨_, rfl⟩
    have hal : all.length = l0.length + l1.length := by rw [hall2, List.length_append]
    rw [← hall2] at hall HV hcat
    clear hall2 h
    have hmm := @run_makeMap Tryd.prog
    have HR0 := Aside0.mk hr0
    have HR1 := Aside0.mk hr1
    have HC0 := Aside0.mk hc0
    have HC1 := Aside0.mk hc1
    have HCAT := Aside0.mk hcat
    have HALL := Aside0.mk hall
    have HLEN := Aside0.mk hlen
    have HAL := Aside0.mk hal
    have HB := Aside0.mk (Below.refl w.heap.size w)
    clear hr0 hr1 hc0 hc1 hcat hall hlen hal
    go_enter Tryd.func20, Tryd.ntmps20
    go_wp2_with (first | (go_at_call 32; refine (api_Rec_32.calls 9 (some ⟨w.heap.size + 1, 0, none⟩) 2 [l0, l1] all _ ?s1 (Nat.le_refl _) HCAT.out).mono ?_; (case s1 => exact two_C (by have h9 := World.alloc_heap_new (w.alloc (.map #[] 0)) (.cells #[.slice A0 l0.length c0, .slice A1 l1.length c1] 23); rw [World.size_alloc] at h9; exact h9) (Kd.C_alloc (Kd.C_alloc HR0.out _) _) (Kd.C_alloc (Kd.C_alloc HR1.out _) _) HC0.out HC1.out); rintro e w8 ⟨v8, rfl, ho0, hb⟩; have n0_ := Aside0.mk (Kd.R_lower ho0 (show w.heap.size + 1 ≤ ((w.alloc (.map #[] 0)).alloc (.cells #[.slice A0 l0.length c0, .slice A1 l1.length c1] 23)).heap.size by simp only [World.size_alloc]; omega)); have n1_ := Aside0.mk (below_step (below_alloc (below_alloc HB.out (.map #[] 0)) (.cells #[.slice A0 l0.length c0, .slice A1 l1.length c1] 23)) hb); have n2_ := Aside0.mk (owns_below ((World.ownsMap_made w Tryd.prog 9 (plainElem (H := Unit) Tryd.prog 9)).alloc (.cells #[.slice A0 l0.length c0, .slice A1 l1.length c1] 23)) hb); clear HB ho0 hb; have HO := n0_; have HB := n1_; have HM := n2_; clear n0_ n1_ n2_; obtain ⟨Ao, co, eo⟩ := Kd.R_slice HO.out; subst eo))
    go_loopg [17] all.length (fun kq v17 w' => ∃ (i : Nat), v17 = .int .i64 (i : Int) ∧ Aside0 (Kd.R k41 41 w' (w.heap.size + 1) (fun _ => True) (.slice Ao all.length co) all) ∧ Aside0 (w'.ownsMap Tryd.prog 9 (plainElem (H := Unit) Tryd.prog 9) w.heap.size i (mapD (all.take i))) ∧ Aside0 (all.length ≤ i + kq) ∧ Aside0 (i ≤ all.length) ∧ Aside0 (Below w.heap.size w w'))
    case atStart => exact ⟨0, rfl, HO, by rw [List.take_zero]; exact HM, ⟨by omega⟩, ⟨Nat.zero_le _⟩, HB⟩
    case round =>
      obtain ⟨i, rfl, HO, HM, HK, HL, HB⟩ := hrel
      have hI := HL.out
      by_cases c13 : i < all.length
      · have c13b0 : decide ((i : Int) < (all.length : Int)) = true := decide_eq_true (by omega)
        obtain ⟨ad, e125, hx_0, hx_1⟩ := at_T41 (Kd.R_reads' HO.out).2.2 (i : Int) (by omega) (by omega)
        cases e125
        obtain ⟨s0, s1⟩ := all_at HALL.out i c13
        have htk := take_rd all i c13
        obtain ⟨p, hp⟩ : ∃ p, p = rd_T41 all (i : Int) := ⟨_, rfl⟩
        rw [← hp] at hx_0 hx_1 htk s0 s1
        rw [Int.toNat_natCast] at hx_0 hx_1
        obtain ⟨F0, F1⟩ := p
        simp only at hx_0 hx_1 s0 s1
        have HTK := Aside0.mk htk
        have HS1 := Aside0.mk s1
        have hkey := WideMaps.keyOf_string_mk Tryd.underlying9 s0
        clear hp htk s0 s1
        go_wp2_with (first | (at_mapUpdate; refine wpList_mapUpdate_own _ rfl _ _ _ 66 rfl 9 9 (string_keyed Tryd.underlying9) Tryd.underlying66 _ w.heap.size i _ rfl (HM.out.alloc _) (by have := HAL.out; have := HLEN.out; unfold maxLen; omega) _ _ _ rfl rfl hkey _ [] (plainElem_string Tryd.underlying9 HS1.out) ?_; intro w1 hown1 hgrow1))
        obtain ⟨k1, rfl⟩ : ∃ q, gk = q + 1 := ⟨gk - 1, by have := HK.out; omega⟩
        have w1i := next_i i (by have := HAL.out; have := HLEN.out; omega)
        have hO1 : Kd.R k41 41 w1 (w.heap.size + 1) (fun _ => True) (.slice (some ad) all.length co) all := Kd.R_grown2 (Kd.R_alloc HO.out _) rfl hgrow1 (fun k e h => by have := Kd.R_base HO.out k h.symm; injection e with e; omega)
        have hB1 : Below w.heap.size w w1 := (below_alloc HB.out _).grown hgrow1 (below_alloc HB.out (.cells #[.string F0, .string F1] 41)).size (fun k e => by cases e; exact Nat.le_refl _)
        go_roundg k1
        case measure => omega
        case rel => exact ⟨i + 1, by rw [w1i], ⟨hO1⟩, ⟨by rw [HTK.out, mapD_snoc]; exact hown1⟩, ⟨by have := HK.out; omega⟩, ⟨c13⟩, ⟨hB1⟩⟩
      · have c13b0 : decide ((i : Int) < (all.length : Int)) = false := decide_eq_false (by omega)
        have hi : i = all.length := by omega
        have hM := HM.out
        rw [hi, List.take_length] at hM
        have HM2 := Aside0.mk hM
        have HMX := Aside0.mk (Nat.le_trans hM.size_le (show all.length ≤ 4000000000 by have := HAL.out; have := HLEN.out; omega))
        clear HM hM HK hI HL hi HCAT HR0 HR1 HC0 HC1 HO
        go_wp2_with (first | (go_at_call 34; refine ((callsIn_wide (n := 5)).1 (Tryd.maps_Keys_34 _ _)).mono ?_; rintro e w9 ⟨rfl, rfl⟩) | (go_at_call 33; refine ((callsIn_wide (n := 5)).1 (Tryd.slices_Sorted_keys_33_34 w.heap.size all.length (mapD all) _ wr HM2.out (by have := HMX.out; unfold maxLen; omega) (by have := HMX.out; omega))).mono ?_; rintro e w10 ⟨v10, ss, rfl, hS, hrow, hnil, hb⟩; have n0_ := Aside0.mk (keys_row (Nat.le_trans (below_size HB.out) (show wr.heap.size ≤ (wr.alloc (.cells #[.map (some w.heap.size)] 66)).heap.size by simp only [World.size_alloc]; omega)) hS hrow); have n1_ := Aside0.mk (below_step (below_alloc HB.out (.cells #[.map (some w.heap.size)] 66)) hb); have n2_ := Aside0.mk (owns_below (HM2.out.alloc (.cells #[.map (some w.heap.size)] 66)) hb); clear HB HM2 hrow hnil hb hS; have HS := n0_; have HB := n1_; have HM := n2_; clear n0_ n1_ n2_; obtain ⟨As, cs_, es⟩ := Kd.R_slice HS.out; subst es))
        obtain ⟨K, hK⟩ : ∃ K, K = (strKeys (mapD all)).mergeSort leB := ⟨_, rfl⟩
        have hks : ksD (mapD all) = K.map tx := by rw [hK]; rfl
        have hkl : ∀ x ∈ K, x.length ≤ maxLen := fun x hx => strKeys_le HM.out Tryd.underlying9 x (by rw [hK] at hx; exact (List.mergeSort_perm _ _).mem_iff.1 hx)
        have hkn : K.length ≤ 4000000000 := by
          have h2 : K.length = Maps.size (mapD all) := by
            rw [hK, List.length_mergeSort]
            obtain ⟨es, hD⟩ := HM.out.isMap
            rw [hD]
            simp [strKeys, Maps.size]
          have := HMX.out
          omega
        have hv := HV.out
        have hm2 : mergeL all = keepD (mapD all) K := by rw [hK]; rfl
        rw [hm2] at hv
        rw [hks] at HS ⊢
        have HV := Aside0.mk hv
        have HKL := Aside0.mk hkl
        have HKN := Aside0.mk hkn
        clear hv hK hks hkl hkn hm2
        rw [hks2 K] at HS ⊢
        go_loopg [8, 31] K.length (fun kq v8 v31 w' => ∃ (i : Nat), v31 = .int .i64 (i : Int) ∧ Aside0 (Kd.R k41 41 w' w.heap.size (fun _ => True) v8 (keepD (mapD all) (K.take i))) ∧ Aside0 (Kd.R Kd.string 9 w' w.heap.size (fun _ => True) (.slice As K.length cs_) (K.map tx)) ∧ Aside0 (w'.ownsMap Tryd.prog 9 (plainElem (H := Unit) Tryd.prog 9) w.heap.size all.length (mapD all)) ∧ Aside0 (K.length ≤ i + kq) ∧ Aside0 (i ≤ K.length) ∧ Aside0 (Below w.heap.size w w'))
        case atStart => exact ⟨0, rfl, ⟨by rw [List.take_zero]; exact Kd.R_nil _ _ _ _ _⟩, HS, HM, ⟨by omega⟩, ⟨Nat.zero_le _⟩, HB⟩
        case round =>
          obtain ⟨i, rfl, HO, HS, HM, HK, HL, HB⟩ := hrel
          have hI := HL.out
          by_cases c13 : i < K.length
          · have c13b0 : decide ((i : Int) < (K.length : Int)) = true := decide_eq_true (by omega)
            have hsC := (Kd.R_reads' HS.out).2.2
            obtain ⟨ad, e125, hx_0⟩ := Kd.at_string hsC (i : Int) (by omega) (by rw [hks2]; omega)
            cases e125
            have hkd := keepD_snoc (mapD all) K i c13
            have hkl := HKL.out K[i] (List.getElem_mem c13)
            have hrd : rdOf ByteArray.empty (K.map tx) (i : Int) = tx K[i] := by
              unfold rdOf
              rw [Int.toNat_natCast, List.getD_eq_getElem?_getD, List.getElem?_map, List.getElem?_eq_getElem c13]
              rfl
            rw [hrd, Int.toNat_natCast] at hx_0
            obtain ⟨kk, hkk⟩ : ∃ kk, kk = K[i] := ⟨_, rfl⟩
            rw [← hkk] at hx_0 hkd hkl
            have hkey : keyOf Tryd.prog 9 (.string (tx kk)) = some (.string (tx kk).data.toList) := WideMaps.keyOf_string_mk Tryd.underlying9 (by rw [tx_size]; exact hkl)
            have hlk := lookup_string HM.out (string_keyed Tryd.underlying9) Tryd.underlying66 Tryd.underlying9 (Tryd.zeroValue9 _) hkey
            rw [data_tx] at hlk
            obtain ⟨V, hV⟩ : ∃ V, V = valD (mapD all) kk := ⟨_, rfl⟩
            rw [← hV] at hlk hkd
            obtain ⟨s, hs⟩ : ∃ s, s = tx kk := ⟨_, rfl⟩
            obtain ⟨vs, hvs⟩ : ∃ s, s = tx V := ⟨_, rfl⟩
            rw [← hs] at hx_0 hlk hkd
            rw [← hvs] at hlk hkd
            have hvt : vs.toList = V := by rw [hvs, tx_toList]
            have w1i := next_i i (by have := HKN.out; omega)
            have hge : 1 ≤ gk := by have := HK.out; omega
            have HKD := Aside0.mk hkd
            have W1I := Aside0.mk w1i
            clear hkk hkl hkey hs hvs hkd hrd hsC w1i hV
            by_cases hz : V = []
            · have c1 : (vs.toList != ([] : List UInt8)) = false := by rw [hvt, hz]; rfl
              have c2 : (vs.toList == ([] : List UInt8)) = true := by rw [hvt, hz]; rfl
              clear hvt
              go_wp2
              obtain ⟨k1, rfl⟩ : ∃ q, gk = q + 1 := ⟨gk - 1, by omega⟩
              go_roundg k1
              case measure => omega
              case rel => exact ⟨i + 1, by rw [W1I.out], ⟨by rw [HKD.out, if_pos hz, List.append_nil]; exact HO.out⟩, HS, HM, ⟨by have := HK.out; omega⟩, ⟨c13⟩, HB⟩
            · have c1 : (vs.toList != ([] : List UInt8)) = true := by rw [hvt]; exact bne_iff_ne.2 hz
              have c2 : (vs.toList == ([] : List UInt8)) = false := by rw [hvt]; exact beq_eq_false_iff_ne.2 hz
              clear hvt
              have hol : (keepD (mapD all) (K.take i)).length ≤ i := keepD_len _ _ _
              have HOL := Aside0.mk hol
              clear hol
              go_wp2_with (first | ((with_reducible refine gate_builtin (b := .append) (xs := #[.tmp 39, .tmp 45]) rfl ?_); at_builtin; refine Kd.R_append k41 (w0 := w) w.heap.size rfl (.tmp 39) (.tmp 45) 23 41 (.agg #[(.string ⟨#[]⟩), (.string ⟨#[]⟩)]) 32 rfl Tryd.underlying23 info41 rfl (by decide) (by omega) _ (keepD (mapD all) (K.take i)) (⟨s, vs⟩ : S41) [.string s, .string vs] (fun _ => True) (fun _ => False) rfl rfl ?aP (fun _ hk => hk.elim) ?aF ?aO ?aB ?aS ?aL ?_; (case aP => exact k41_mkM _ _ _ (⟨s, vs⟩ : S41)); (case aB => exact HB.out); (case aF => exact (fun _ _ => trivial)); (case aO => exact HO.out); (case aS => exact below_size HB.out); (case aL => have := HOL.out; have := HKN.out; omega); intro v129 w26 ho hb hg hat; have hg2 : wr.grownBy w26 u8.ownBlock := hg; have n0_ := Aside0.mk hb; have n1_ := Aside0.mk ho; have n2_ := Aside0.mk (Kd.R_over' HS.out (Kd.R_typed HO.out) (by decide) hg2); have n3_ := Aside0.mk (owns_row HM.out (Kd.R_typed HO.out) hg2); clear HB HO HS HM hb ho hg hg2 hat hlk hx_0; have HB := n0_; have HO := n1_; have HS := n2_; have HM := n3_; clear n0_ n1_ n2_ n3_))
              obtain ⟨k1, rfl⟩ : ∃ q, gk = q + 1 := ⟨gk - 1, by omega⟩
              go_roundg k1
              case measure => omega
              case rel => exact ⟨i + 1, by rw [W1I.out], ⟨by rw [HKD.out, if_neg hz]; exact HO.out⟩, HS, HM, ⟨by have := HK.out; omega⟩, ⟨c13⟩, HB⟩
          · have c13b0 : decide ((i : Int) < (K.length : Int)) = false := decide_eq_false (by omega)
            have hi : i = K.length := by omega
            have hO := HO.out
            rw [hi, List.take_length, HV.out] at hO
            have HO2 := Aside0.mk hO
            clear HO hO HK HL hI hi HS HM
            go_wp2
            go_ret
            exact ⟨_, rfl, HO2.out, HB.out⟩
  · rw [if_neg hc] at h
    cases h
end Go.Proofs.YtcbeehchhhoeeaaDoor.P
end
