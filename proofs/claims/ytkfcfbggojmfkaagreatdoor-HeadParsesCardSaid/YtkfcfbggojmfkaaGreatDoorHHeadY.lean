/- head.Way: what it tells of every block. Its condition: head.magic holds what its text lays. head.magic, as a row's condition lays it. No conditions. -/
import Derived.Test.YtkfcfbggojmfkaaGreatDoorHOct
import Derived.Test.YtkfcfbggojmfkaaGreatDoorPx2
import Derived.Lib.LaidU8
section
namespace Go.Proofs.YtkfcfbggojmfkaaGreatDoor.P
open Go Go.RowKit Go.Shelf Go.Lib Go.Proofs.YtkfcfbggojmfkaaGreatDoorW.PrintWords Go.Proofs.YtkfcfbggojmfkaaGreatDoorW.PrintLast Go.Proofs.YtkfcfbggojmfkaaGreatDoorW.PrintMore
set_option linter.unusedVariables false
set_option linter.unusedSimpArgs false

def magic0 : ByteArray := ⟨#[0, 0, 0, 0, 0, 0, 0, 0]⟩
def magic1 : ByteArray := ⟨#[117, 115, 116, 97, 114, 0, 48, 48]⟩
def magic2 : ByteArray := ⟨#[117, 115, 116, 97, 114, 32, 32, 0]⟩
def magicL : List ByteArray := [magic0, magic1, magic2]
structure Tabs (w : World) : Prop where
 m : w.var? Tryz.prog "mudlark/head.magic" = some #[.string magic0, .string magic1, .string magic2]
theorem gl_magic : Tryz.prog.globalNamed "mudlark/head.magic" = some 0 := by kernel_rfl
theorem Tabs.below {w w' : World} (h : Tabs w) (hb : Below w.heap.size w w') : Tabs w' := by
 refine ⟨?_⟩
 have hu := h.m
 unfold World.var? at hu ⊢
 rw [gl_magic] at hu ⊢
 simp only [Option.bind_some] at hu ⊢
 have hlt : 0 < w.heap.size := by
  rcases Nat.lt_or_ge 0 w.heap.size with h' | h'
  ·exact h'
  ·rw [Array.getElem?_eq_none h'] at hu; cases hu
 rw [hb.block _ hlt]
 exact hu
theorem Tabs.cell {w : World} (h : Tabs w) (i : Nat) : w.cell? ⟨0, i, none⟩ = (#[.string magic0, .string magic1, .string magic2] : Array Value)[i]? := by
 have hu := h.m
 unfold World.var? at hu
 rw [gl_magic] at hu
 simp only [Option.bind_some] at hu
 unfold World.cell?
 cases hb : w.heap[0]? with
 | none => rw [hb] at hu; cases hu
 | some o =>
  rw [hb] at hu
  cases o with
  | cells cs t fr =>
   simp only [Option.some.injEq] at hu
   subst hu
   simp
  | _ => cases hu
theorem Tabs.reads {w : World} (h : Tabs w) : Kd.C Kd.string w (some ⟨0, 0, none⟩) 3 magicL := by
 refine Kd.C_of_reads (enc := Value.string) (d := ByteArray.empty) (h1 := fun _ => rfl) ⟨rfl, by decide, fun _ => ⟨_, rfl, fun j hj => ?_⟩⟩
 have e : (⟨0, 0, none⟩ : Addr).add j = ⟨0, j, none⟩ := by unfold Addr.add; split <;> simp_all
 rw [e, h.cell]
 match j, hj with
 | 0, _ => rfl
 | 1, _ => rfl
 | 2, _ => rfl
def idxM (s : ByteArray) : Int := if s.toList = magic0.toList then 0 else if s.toList = magic1.toList then 1 else if s.toList = magic2.toList then 2 else -1
theorem idx_magic (s : ByteArray) : slices_Index_string_string.f 4 magicL s = some (idxM s) := by
 have e1 : wrap64 ((0 : Int) + 1) = 1 := by unfold wrap64; omega
 have e2 : wrap64 ((1 : Int) + 1) = 2 := by unfold wrap64; omega
 have e3 : wrap64 ((2 : Int) + 1) = 3 := by unfold wrap64; omega
 have r0 : rdOf ByteArray.empty magicL 0 = magic0 := rfl
 have r1 : rdOf ByteArray.empty magicL 1 = magic1 := rfl
 have r2 : rdOf ByteArray.empty magicL 2 = magic2 := rfl
 have hl : (magicL.length : Int) = 3 := rfl
 unfold slices_Index_string_string.f idxM
 simp only [slices_Index_string_string.l0, hl, e1, e2, e3, r0, r1, r2]
 simp only [Int.reduceLT, Int.reduceLE, if_true, if_false]
 by_cases h0 : s.toList = magic0.toList
 ·rw [if_pos h0, if_pos h0]
 ·rw [if_neg h0, if_neg h0]
  by_cases h1 : s.toList = magic1.toList
  ·rw [if_pos h1, if_pos h1]
  ·rw [if_neg h1, if_neg h1]
   by_cases h2 : s.toList = magic2.toList
   ·rw [if_pos h2, if_pos h2]
   ·rw [if_neg h2, if_neg h2]
theorem idxM_range (s : ByteArray) : idxM s = 0 ∨ idxM s = 1 ∨ idxM s = 2 ∨ idxM s = -1 := by
 unfold idxM
 repeat' split
 all_goals simp
def wayF (l : List Int) : Int × Bool := if l.length = 512 then (if 0 ≤ idxM (strOfNums ((l.take 265).drop 257)) then (idxM (strOfNums ((l.take 265).drop 257)), true) else (0, false)) else (0, false)
def head_Way.f (l0 : List Int) : Option (Int × Bool) := some (wayF l0)
theorem head_Way.calls (A0 : Option Addr) (c0 : Nat) (l0 : List Int) (r1 : Int) (r2 : Bool) (w : World) (hr0 : Kd.C (Kd.int .u8) w A0 l0.length l0) (hc0 : l0.length ≤ c0) (h : head_Way.f l0 = some (r1, r2)) (HT_ : Tabs w) :
  Calls Tryz.prog 16 #[.slice A0 l0.length c0] w fun e w' => e = .returned (.tuple #[.int .i64 r1, .bool r2]) ∧ Below w.heap.size w w' := by
 have h2 : wayF l0 = (r1, r2) := Option.some.inj h
 clear h
 unfold wayF at h2
 by_cases hn : l0.length = 512
 ·rw [if_pos hn] at h2
  have n0 : ((l0.length : Int) != 512) = false := by rw [hn]; rfl
  obtain ⟨i06, hi06, _, hsz6, _⟩ := info_parts info5
  obtain ⟨A6, hcut6, hA6, hC6⟩ := print_mid_of (P := Tryz.prog) (Value.int .u8) 0 22 5 .i64 .i64 Tryz.underlying22 hi06 hsz6 A0 c0 l0 257 265 (by omega) (by omega) (by omega) hc0
  have hrd := hA6 _ (Kd.reads_of_C hr0)
  have hcv : ∀ q, (convert 22 9 (.slice A6 ((l0.take 265).drop 257).length (c0 - 257))).run Tryz.prog (w.drewN q) = .ok (.string (strOfNums ((l0.take 265).drop 257))) (w.drewN q) := fun q =>
   string_of_reads Tryz.underlying22 Tryz.underlying5 Tryz.underlying9 (ReadsOf.drewN hrd q)
  obtain ⟨s, hs⟩ : ∃ s, s = strOfNums ((l0.take 265).drop 257) := ⟨_, rfl⟩
  rw [← hs] at h2 hcv
  have hlen : ((l0.take 265).drop 257).length = 8 := by rw [List.length_drop, List.length_take]; omega
  rw [hlen] at hcv
  have hcut7 : ∀ W : World, (Instr.slice 22 (.slice A0 l0.length c0) (some (.int .i64 257)) (some (.int .i64 265)) none).run Tryz.prog W = .ok (.slice A6 8 (c0 - 257)) W := fun W => by rw [← hlen]; exact hcut6 W
  clear hcut6 hC6
  have hR := HT_.reads
  have hix : ∀ n : Nat, Calls Tryz.prog 38 #[.slice (some ⟨0, 0, none⟩) 3 3, .string s] (w.drewN n) fun e w'' => e = .returned (.int .i64 (idxM s)) ∧ ∃ m, w'' = w.drewN m := fun n => Calls.quiet_of ((slices_Index_string_string.calls 4 (some ⟨0, 0, none⟩) 3 magicL s _ (w.drewN n) (Kd.C_drewN hR n) (by decide) (idx_magic s)).mono fun e w' h => ⟨h.1, h.2.out⟩)
  have hr := idxM_range s
  generalize idxM s = i at hix h2 hr
  have HIX := Aside0.mk hix
  have n1 : (257 : Int) ≤ 265 := by decide
  have n2 : (265 : Int) ≤ (l0.length : Int) := by omega
  clear hix hR HT_ hr0 hrd hA6 hs hlen hn
  rcases hr with rfl | rfl | rfl | rfl
  all_goals
   simp only [Int.reduceLE, Int.reduceNeg, if_true, if_false] at h2
   obtain ⟨rfl, rfl⟩ := Prod.mk.inj h2
   clear h2
   go_enter Tryz.func16, Tryz.ntmps16
   go_wp2
   go_quiet ((go_at_call 38; exact HIX.out _))
   go_wp2
   go_ret2
   exact ⟨by first | rfl | simp, pw_below_drewN (Below.refl _ _) _⟩
 ·rw [if_neg hn] at h2
  obtain ⟨rfl, rfl⟩ := Prod.mk.inj h2
  have n0 : ((l0.length : Int) != 512) = true := bne_iff_ne.2 (by omega)
  clear hn h2 hr0 HT_
  go_enter Tryz.func16, Tryz.ntmps16
  go_wp2
  go_ret2
  exact ⟨rfl, Below.refl _ _⟩
end Go.Proofs.YtkfcfbggojmfkaaGreatDoor.P
end

section
namespace Go.Proofs.YtkfcfbggojmfkaaGreatDoor.P
open Go Go.RowKit Go.Shelf Go.Lib Go.Proofs
theorem strs_of_tab {H : Type} {enc : TypeId × Value → H} {P : Program} {w : World} {base : Nat} {sp : Nat → Bool} {held : Bool} {fuel : Nat} {t e : TypeId} {n : Nat} {cs : List Value} {ss : List (List UInt8)} {p : List MemPlace}
  (ht : P.underlying t = some (.array n e)) (he : P.underlying e = some .string) (hce : P.cellsOf e = 1) (hct : P.cellsOf t = n)
  (h : DataW.trod enc P w base sp held fuel t cs = some (.agg (ss.map fun s => .lit (.string s)), p)) : cs = ss.map fun s => Value.string ⟨s.toArray⟩ := by
 cases fuel with
 | zero => simp [DataW.trod] at h
 | succ fuel =>
  simp only [DataW.trod, ht, hce, hct, Nat.mul_one] at h
  split at h
  ·rename_i hl
   obtain ⟨xs, hm, hx⟩ := Option.map_eq_some_iff.1 h
   have hxs : xs.map (·.1) = ss.map fun s => (DataW.lit (.string s) : DataW H) := by
    have := congrArg Prod.fst hx
    simpa using this
   have hxl : xs.length = n := by simpa using mapM_length hm
   have hzl : ss.length = n := by
    have := congrArg List.length hxs
    simp at this
    omega
   apply List.ext_getElem?
   intro i
   by_cases hi : i < n
   ·obtain ⟨b, hb, hf⟩ := mapM_at hm i i (by simp [hi])
    obtain ⟨s, hc, rfl, _⟩ := DataW.trod_string he hf
    have h1 : cs[i]? = some (.string s) := by
     have := congrArg (·[0]?) hc
     simpa [List.getElem?_take, List.getElem?_drop] using this
    have h2 : (xs.map (·.1))[i]? = some (DataW.lit (.string s.data.toList) : DataW H) := by simp [hb]
    rw [hxs, List.getElem?_map] at h2
    obtain ⟨u, hu, hu2⟩ := Option.map_eq_some_iff.1 h2
    have hu3 : u = s.data.toList := by injection hu2 with hu2; injection hu2
    rw [h1, List.getElem?_map, hu, hu3]
    rfl
   ·have hcl : cs.length = n := by simpa using hl
    rw [List.getElem?_eq_none (by omega), List.getElem?_eq_none (by simp; omega)]
  ·cases h
theorem tabs_of_laid {w : World} (h : Lib.VarReads Tryz.prog w "mudlark/head.magic" (.agg [.lit (.string [0, 0, 0, 0, 0, 0, 0, 0]), .lit (.string [117, 115, 116, 97, 114, 0, 48, 48]), .lit (.string [117, 115, 116, 97, 114, 32, 32, 0])])) : Tabs w := by
 obtain ⟨g, t, cs, fuel, p, hg, hty, hvar, hd⟩ := h
 have hg2 : Tryz.prog.globalNamed "mudlark/head.magic" = some 0 := by kernel_rfl
 have hty2 : (Tryz.prog.globals[0]?).map (·.type) = some 61 := by kernel_rfl
 obtain rfl := Option.some.inj (hg2.symm.trans hg)
 obtain rfl := Option.some.inj (hty2.symm.trans hty)
 have ht : Tryz.prog.underlying 61 = some (.array 3 9) := by kernel_rfl
 have he : Tryz.prog.underlying 9 = some .string := by kernel_rfl
 have hce : Tryz.prog.cellsOf 9 = 1 := by kernel_rfl
 have hct : Tryz.prog.cellsOf 61 = 3 := by kernel_rfl
 have hcs := strs_of_tab (ss := [[0, 0, 0, 0, 0, 0, 0, 0], [117, 115, 116, 97, 114, 0, 48, 48], [117, 115, 116, 97, 114, 32, 32, 0]]) ht he hce hct hd
 exact ⟨hvar.trans (congrArg some (Array.toList_inj.1 hcs))⟩
end Go.Proofs.YtkfcfbggojmfkaaGreatDoor.P
end
