/- str.Put and str.Cut: what they hand back. Put: for every text and every width that a machine has room for. Cut: for every slice of bytes shorter than 4294967281. Texts as bytes and back. No conditions. -/
import Derived.Test.YtkfcfbggojmfkaaGreatDoorHOct
import Derived.Test.YtkfcfbggojmfkaaGreatDoorHLay
import Derived.Lib.Walk
import Derived.Shelf.RegionOpenPlain
import Derived.Lib.BufferWrite
import Derived.Laws.MakeOwn
import Derived.Shelf.Bytes.SlSmallAll
section
namespace Go.Proofs.YtkfcfbggojmfkaaGreatDoor.P
open Go.RowKit Go.Shelf Go.Lib Go.Proofs.YtkfcfbggojmfkaaGreatDoorW.PrintWords Go.Proofs.YtkfcfbggojmfkaaGreatDoorW.PrintLast Go.Proofs.YtkfcfbggojmfkaaGreatDoorW.PrintMore
set_option linter.unusedVariables false
set_option linter.unusedSimpArgs false

def numsL (s : ByteArray) : List Int := s.data.toList.map fun b => (b.toNat : Int)
theorem numsL_length (s : ByteArray) : (numsL s).length = s.size := by
 rw [numsL, List.length_map, ← Lib.size_eq]
def sputF (s : ByteArray) (wide : Int) : List Int × Bool :=
 if (s.size : Int) > wide ∨ Lib.indexByte s.data.toList 0 ≥ 0 then ([], false) else (numsL s ++ List.replicate (wide.toNat - s.size) 0, true)
def str_Put.f (a0 : ByteArray) (a1 : Int) : Option (List Int × Bool) := if a1 ≤ 140737488351232 then some (sputF a0 a1) else none

theorem row_R {W : World} {base g t : Nat} (l : List Int) (hg : W.heap[g]? = some (.cells (l.map (fun x => Value.int .u8 x)).toArray t (0, 0))) (hb : base ≤ g) (hm : l.length ≤ 9223372036854775807) :
  Kd.R (Kd.int .u8) t W base (fun _ => True) (.slice (some ⟨g, 0, none⟩) l.length l.length) l := by
 refine ⟨fun _ _ => trivial, l.map (fun x => Value.int .u8 x), ⟨by simp [Kd.int, Kd.scalar], .inr ⟨g, l.length, _, rfl, hb, hg, Nat.le_refl _, by simpa [maxLen] using hm, by simp [Kd.int, Kd.scalar], by simp only [Kd.int, Kd.scalar, Nat.mul_one]; exact List.take_of_length_le (by simp)⟩⟩, ?_⟩
 refine ⟨by simp [Kd.int, Kd.scalar], fun j p hp => ?_⟩
 obtain ⟨hj, rfl⟩ := List.getElem?_eq_some_iff.1 hp
 show ((l.map (fun x => Value.int .u8 x)).drop (j * 1)).take 1 = [Value.int .u8 l[j]]
 rw [Nat.mul_one, List.drop_eq_getElem_cons (by simpa using hj)]
 simp
theorem made_nul (n : Nat) : (madeCells (Value.int .u8 0).cells n).toList = List.replicate n (Value.int .u8 0) := by
 apply List.ext_getElem
 ·simp [size_madeCells]
 ·intro i h1 h2
  simp [madeCells, Value.cells, Nat.mod_one]
theorem byteCells_nums (s : ByteArray) : Lib.byteCells s.data.toList = (numsL s).map (fun x => Value.int .u8 x) := by
 simp [Lib.byteCells, numsL]

set_option maxHeartbeats 2000000 in
set_option maxRecDepth 1000000 in
theorem str_Put.calls (a0 : ByteArray) (a1 : Int) (r1 : List Int) (r2 : Bool) (w : World) (h : str_Put.f a0 a1 = some (r1, r2)) :
  Calls Tryz.prog 64 #[.string a0, .int .i64 a1] w fun e w' => ∃ v0_ : Value, e = .returned (.tuple #[v0_, .bool r2]) ∧ Kd.R (Kd.int .u8) 5 w' w.heap.size (fun _ => True) v0_ r1 ∧ Below w.heap.size w w' := by
 unfold str_Put.f at h
 by_cases hw : a1 ≤ 140737488351232
 ·rw [if_pos hw] at h
  have h2 := Option.some.inj h
  clear h
  unfold sputF at h2
  by_cases c1 : (a0.size : Int) > a1
  ·rw [if_pos (Or.inl c1)] at h2
   obtain ⟨rfl, rfl⟩ := Prod.mk.inj h2
   have c1b : decide (a1 < (a0.size : Int)) = true := decide_eq_true c1
   go_enter Tryz.func64, Tryz.ntmps64
   go_wp2_with (go_at_call 88; fail)
   go_ret2
   exact ⟨_, rfl, Kd.R_nil _ _ _ _ _, Below.refl _ _⟩
  ·have c1b : decide (a1 < (a0.size : Int)) = false := decide_eq_false c1
   obtain ⟨ix, hix⟩ : ∃ ix, Lib.indexByte a0.data.toList 0 = ix := ⟨_, rfl⟩
   rw [hix] at h2
   have hcx : ∀ W, Calls Tryz.prog 88 #[.string a0, .int .u8 0] W fun e w' => e = .returned (.int .i64 ix) ∧ w' = W := fun W => by
    have := Tryz.strings_IndexByte a0 0 W
    rw [show ((0 : Int).toNat.toUInt8) = (0 : UInt8) from rfl, hix] at this
    exact this
   have HX := Aside0.mk hcx
   clear hcx hix
   by_cases c2 : ix ≥ 0
   ·rw [if_pos (Or.inr c2)] at h2
    obtain ⟨rfl, rfl⟩ := Prod.mk.inj h2
    have c2b : decide (0 ≤ ix) = true := decide_eq_true c2
    go_enter Tryz.func64, Tryz.ntmps64
    go_wp2_with (go_at_call 88; refine (HX.out _).mono ?_; rintro e w1 ⟨rfl, rfl⟩)
    go_ret2
    exact ⟨_, rfl, Kd.R_nil _ _ _ _ _, Below.refl _ _⟩
   ·rw [if_neg (fun hh => hh.elim c1 c2)] at h2
    obtain ⟨rfl, rfl⟩ := Prod.mk.inj h2
    have c2b : decide (0 ≤ ix) = false := decide_eq_false c2
    obtain ⟨n, rfl⟩ := Int.eq_ofNat_of_zero_le (show 0 ≤ a1 by omega)
    have hn : a0.size ≤ n := by omega
    have hi5 : (Tryz.prog.info? 5).map (fun i => (i.zero, i.size, i.bytes)) = some (some (.int .u8 0), 1, 1) := by kernel_rfl
    obtain ⟨i0, hi, hz0, hz1, hz2⟩ := info_parts hi5
    have hinfo : (Tryz.prog.info? 5).map (·.size) = some 1 := by rw [hi]; simp [hz1]
    obtain ⟨M, hM⟩ : ∃ M, M = madeCells (Value.int .u8 0).cells (((n : Nat) : Int).toNat * i0.size) := ⟨_, rfl⟩
    have hMs : M.size = n := by rw [hM, size_madeCells, hz1]; simp
    have hMl : M.toList = List.replicate n (Value.int .u8 0) := by rw [hM, hz1, made_nul]; simp
    have hmk : ∀ W : World, (Instr.makeSlice 22 (.int .i64 (n : Int)) (.int .i64 (n : Int))).run Tryz.prog W = .ok (.slice (some ⟨W.heap.size, 0, none⟩) n n) (W.alloc (.cells M 5)) := fun W => by
     have h := run_make (P := Tryz.prog) W 22 5 i0 (.int .u8 0) Tryz.underlying22 hi hz0 .i64 .i64 (n : Int) (n : Int) (by omega) (by omega) (by rw [hz2]; omega) (by omega)
     rw [← hM] at h
     simpa using h
    clear hM
    have hcp := Lib.run_copy_row_string (P := Tryz.prog) (w.alloc (.cells M 5)) 22 9 3 5 w.heap.size 0 n n a0 M 5 Tryz.underlying22 hinfo (heap_alloc_new w _) hn (by omega)
    obtain ⟨Y, hY⟩ : ∃ Y, Y = (M.toList.take 0 ++ Lib.byteCells a0.data.toList ++ M.toList.drop (0 + a0.size)).toArray := ⟨_, rfl⟩
    rw [← hY] at hcp
    have hYl : Y = ((numsL a0 ++ List.replicate (n - a0.size) 0).map (fun x => Value.int .u8 x)).toArray := by
     rw [hY, List.take_zero, List.nil_append, hMl, byteCells_nums, List.drop_replicate, List.map_append, List.map_replicate, Nat.zero_add]
    have hgY : ((w.alloc (.cells M 5)).setRow w.heap.size Y).heap[w.heap.size]? = some (.cells Y 5 (0, 0)) := setRow_heap _ _ M _ 5 (0, 0) (heap_alloc_new w _)
    have hR := Aside0.mk (row_R (base := w.heap.size) (numsL a0 ++ List.replicate (n - a0.size) 0) (by rw [← hYl]; exact hgY) (Nat.le_refl _) (by rw [List.length_append, numsL_length, List.length_replicate]; omega))
    have hlen : (numsL a0 ++ List.replicate (n - a0.size) 0).length = n := by rw [List.length_append, numsL_length, List.length_replicate]; omega
    rw [hlen] at hR
    have hb1 : Below w.heap.size w (w.alloc (.cells M 5)) := (Below.refl _ w).alloc (Nat.le_refl _) _
    have hb2 : Below w.heap.size (w.alloc (.cells M 5)) ((w.alloc (.cells M 5)).setRow w.heap.size Y) := ⟨rfl, rfl, rfl, by simp, fun k hk => setRow_other _ _ _ _ (by omega)⟩
    have HB := Aside0.mk (hb1.trans hb2)
    clear hb1 hb2 hlen hgY hY hYl hMl
    go_enter Tryz.func64, Tryz.ntmps64
    go_wp2_with (go_at_call 88; refine (HX.out _).mono ?_; rintro e w1 ⟨rfl, rfl⟩)
    go_ret2
    exact ⟨_, rfl, hR.out, HB.out⟩
 ·rw [if_neg hw] at h
  cases h

/-! ### Cut -/
def cutF (l : List Int) : List Int := l.takeWhile fun x => decide (x ≠ 0)
def str_Cut.f (l0 : List Int) : Option ByteArray := if bytesB l0 = true ∧ l0.length < 4294967281 then some (strOfNums (cutF l0)) else none
theorem ix_take : ∀ (l : List Int), Bytes l → (Lib.indexByte (Lib.bytesOf l) 0 = -1 ∧ cutF l = l) ∨ (∃ n : Nat, Lib.indexByte (Lib.bytesOf l) 0 = n ∧ n ≤ l.length ∧ cutF l = l.take n ∧ n + 1 ≤ l.length)
 | [], _ => .inl ⟨rfl, rfl⟩
 | x :: t, hb => by
  have hx := hb x (by simp)
  have ih := ix_take t (fun y hy => hb y (by simp [hy]))
  have eb : Lib.bytesOf (x :: t) = UInt8.ofNat x.toNat :: Lib.bytesOf t := rfl
  by_cases h0 : x = 0
  ·subst h0
   exact .inr ⟨0, rfl, Nat.zero_le _, rfl, by simp only [List.length_cons]; omega⟩
  ·have hne : (UInt8.ofNat x.toNat == 0) = false := by
    rw [beq_eq_false_iff_ne]
    intro e
    have e2 := congrArg UInt8.toNat e
    rw [UInt8.toNat_ofNat'] at e2
    have : (0 : UInt8).toNat = 0 := rfl
    omega
   have ec : cutF (x :: t) = x :: cutF t := by unfold cutF; rw [List.takeWhile_cons, if_pos (by simpa using h0)]
   rw [eb, ec]
   unfold Lib.indexByte
   rw [hne]
   rcases ih with ⟨h1, h2⟩ | ⟨n, h1, h2, h3, h4⟩
   ·exact .inl ⟨by rw [h1]; rfl, by rw [h2]⟩
   ·refine .inr ⟨n + 1, ?_, by simp only [List.length_cons]; omega, by rw [h3]; rfl, by simp only [List.length_cons]; omega⟩
    rw [h1]
    have : ((n : Int) == -1) = false := beq_eq_false_iff_ne.2 (by omega)
    simp [this]
theorem nul_at (w : World) : (w.alloc (.cells #[.int .u8 0] 5)).cell? ⟨w.heap.size, 0, none⟩ = some (.int .u8 0) := by
 unfold World.cell?
 rw [heap_alloc_new w _]
 rfl
set_option maxRecDepth 100000 in
theorem byte_none (c : Nat) (cv : Int) (w : World) : Calls Tryz.prog 117 #[.slice none 0 c, .int .u8 cv] w fun e w' => e = .returned (.int .i64 (-1)) ∧ w' = w := by
 go_enter Tryz.func117, Tryz.ntmps117
 go_wp2
 rw [run_callFunc_extern Tryz.func128 (by kernel_rfl) (by kernel_rfl) (by kernel_rfl) (e := Extern.BytealgIndexByte.indexByte) (by kernel_rfl), Lib.run_indexByteNil w 0 c cv]
 simp only [Result.andThen]
 rw [Oper.upon_value]
 go_wp2
 go_ret
 exact ⟨rfl, rfl⟩
set_option maxRecDepth 100000 in
theorem index_none (c b2 o2 d : Nat) (cv : Int) (w : World) (hc2 : w.cell? ⟨b2, o2, none⟩ = some (.int .u8 cv)) :
  Calls Tryz.prog 104 #[.slice none 0 c, .slice (some ⟨b2, o2, none⟩) 1 d] w fun e w' => e = .returned (.int .i64 (-1)) ∧ w' = w := by
 go_enter Tryz.func104, Tryz.ntmps104
 go_wp2_with (go_at_call 117; refine (byte_none c cv _).mono ?_; rintro e w1 ⟨rfl, rfl⟩)
 go_ret
 exact ⟨rfl, rfl⟩
set_option maxHeartbeats 2000000 in
set_option maxRecDepth 1000000 in
theorem str_Cut.calls (A0 : Option Addr) (c0 : Nat) (l0 : List Int) (r : ByteArray) (w : World) (hr0 : Kd.C (Kd.int .u8) w A0 l0.length l0) (hc0 : l0.length ≤ c0) (h : str_Cut.f l0 = some r) :
  Calls Tryz.prog 63 #[.slice A0 l0.length c0] w fun e w' => e = .returned (.string r) ∧ Below w.heap.size w w' := by
 unfold str_Cut.f at h
 by_cases hh : bytesB l0 = true ∧ l0.length < 4294967281
 ·rw [if_pos hh] at h
  obtain ⟨hb0, hl0⟩ := hh
  rw [bytesB_iff] at hb0
  have hr := Option.some.inj h
  clear h
  obtain ⟨W0, hW0⟩ : ∃ W0, W0 = w.alloc (.cells #[.int .u8 0] 5) := ⟨_, rfl⟩
  have hbw : Below w.heap.size w W0 := by rw [hW0]; exact (Below.refl _ w).alloc (Nat.le_refl _) _
  have hC0 := Kd.C_below hr0 hbw
  have hnul : W0.cell? ⟨w.heap.size, 0, none⟩ = some (.int .u8 0) := by rw [hW0]; exact nul_at w
  obtain ⟨ix, hix⟩ : ∃ ix, Lib.indexByte (Lib.bytesOf l0) 0 = ix := ⟨_, rfl⟩
  have hrd := Kd.reads_of_C (enc := Value.int .u8) (d := (0 : Int)) (h1 := fun _ => rfl) hC0
  have hidx : Calls Tryz.prog 104 #[.slice A0 l0.length c0, .slice (some ⟨w.heap.size, 0, none⟩) 1 1] W0 fun e w' => e = .returned (.int .i64 ix) ∧ ∃ q, w' = W0.drewN q := by
   cases A0 with
   | none =>
    have h0 : l0.length = 0 := by
     rcases Nat.eq_zero_or_pos l0.length with h0 | h0
     ·exact h0
     ·obtain ⟨ad, e, _⟩ := hrd.2.2 h0
      cases e
    have hl : l0 = [] := List.eq_nil_of_length_eq_zero h0
    subst hl
    have : ix = -1 := by rw [← hix]; rfl
    subst this
    exact (index_none c0 w.heap.size 0 1 0 W0 hnul).mono (fun e w' hw => ⟨hw.1, 0, hw.2⟩)
   | some ad =>
    have := Tryz.bytes_Index_one_at ad l0.length c0 w.heap.size 0 1 l0 0 W0 rfl (fun i hi => by
     obtain ⟨ad2, e, hc⟩ := hrd.2.2 (by omega)
     cases e
     simpa [List.getD] using hc i hi) hnul
    rw [show ((0 : Int).toNat.toUInt8) = (0 : UInt8) from rfl, hix] at this
    exact this.mono (fun e w' hw => ⟨hw.1, 0, hw.2⟩)
  have hix2 : (ix = -1 ∧ cutF l0 = l0) ∨ (∃ n : Nat, ix = n ∧ n ≤ l0.length ∧ cutF l0 = l0.take n ∧ n + 1 ≤ l0.length) := by
   rcases ix_take l0 hb0 with ⟨h1, h2⟩ | ⟨n, h1, h2, h3, h4⟩
   ·exact .inl ⟨by rw [← hix, h1], h2⟩
   ·exact .inr ⟨n, by rw [← hix, h1], h2, h3, h4⟩
  have hcut := Tryz.bytes_Cut_of A0 (some ⟨w.heap.size, 0, none⟩) l0.length c0 1 1 ix W0 hc0 (by rcases hix2 with h | ⟨n, h, _⟩ <;> omega) (by
   rcases hix2 with h | ⟨n, h, h2, h3, h4⟩ <;> omega) (by omega) hidx
  obtain ⟨k, u, b, hk, hkl, hv⟩ : ∃ (k : Nat) (u : Value) (b : Bool), cutF l0 = l0.take k ∧ k ≤ l0.length ∧ Lib.cutV A0 l0.length c0 1 ix = .tuple #[.slice A0 k c0, u, .bool b] := by
   rcases hix2 with ⟨rfl, h2⟩ | ⟨n, rfl, h2, h3, _⟩
   ·exact ⟨l0.length, .slice none 0 0, false, by rw [h2, List.take_length], Nat.le_refl _, rfl⟩
   ·refine ⟨n, Lib.fromV A0 l0.length c0 (n + 1), true, h3, h2, ?_⟩
    unfold Lib.cutV
    rw [if_pos (by omega), Int.toNat_natCast]
  rw [hv] at hcut
  have hcv : ∀ q, (convert 22 9 (.slice A0 k c0)).run Tryz.prog (W0.drewN q) = .ok (.string r) (W0.drewN q) := fun q => by
   rw [← hr, hk]
   exact string_of_reads Tryz.underlying22 Tryz.underlying5 Tryz.underlying9 ((hrd.take_ k hkl).drewN q)
  have HX := Aside0.mk hcut
  have HV := Aside0.mk hcv
  have HB := Aside0.mk hbw
  clear hcut hcv hbw hC0 hv hk hr hr0 hb0 hnul hrd hidx hix2 hix
  subst hW0
  go_enter Tryz.func63, Tryz.ntmps63
  go_wp2_with (go_at_call 87; refine HX.out.mono ?_; rintro e w1 ⟨rfl, q, rfl⟩; have hcv1 := HV.out q)
  go_ret
  exact ⟨rfl, pw_below_drewN HB.out q⟩
 ·rw [if_neg hh] at h
  cases h
end Go.Proofs.YtkfcfbggojmfkaaGreatDoor.P
end

section
namespace Go.Proofs.YtkfcfbggojmfkaaGreatDoor.P
open Go.RowKit Go.Shelf Go.Lib Go.Proofs.YtkfcfbggojmfkaaGreatDoorW.PrintWords Go.Proofs.YtkfcfbggojmfkaaGreatDoorW.PrintLast Go.Proofs.YtkfcfbggojmfkaaGreatDoorW.PrintMore
set_option linter.unusedVariables false
set_option linter.unusedSimpArgs false

theorem nums_str (s : ByteArray) : strOfNums (numsL s) = s := by
 cases s with
 | mk d =>
  unfold strOfNums numsL
  congr 1
  rw [List.map_map]
  have : (d.toList.map ((fun n : Int => UInt8.ofNat n.toNat) ∘ fun b : UInt8 => (b.toNat : Int))) = d.toList := by
   conv => rhs; rw [← List.map_id d.toList]
   apply List.map_congr_left
   intro b _
   simp
  show (d.toList.map _).toArray = d
  rw [this]
theorem cutF_app (l m : List Int) (h : ∀ x ∈ l, x ≠ 0) : cutF (l ++ m) = l ++ cutF m := by
 unfold cutF
 rw [List.takeWhile_append_of_pos (fun x hx => by simpa using h x hx)]
theorem cutF_zeros (n : Nat) : cutF (List.replicate n 0) = [] := by
 cases n with
 | zero => rfl
 | succ n => rfl
theorem ix_split (s : ByteArray) : (Lib.indexByte s.data.toList 0 ≥ 0 ∧ strOfNums (cutF (numsL s)) ≠ s) ∨ (Lib.indexByte s.data.toList 0 < 0 ∧ ∀ x ∈ numsL s, x ≠ 0) := by
 have hge := Lib.indexByte_ge s.data.toList 0
 rcases Int.lt_or_le (Lib.indexByte s.data.toList 0) 0 with h | h
 ·refine .inr ⟨h, fun x hx hx0 => ?_⟩
  have h2 : Lib.indexByte s.data.toList 0 = -1 := by omega
  unfold numsL at hx
  obtain ⟨b, hb, rfl⟩ := List.mem_map.1 hx
  obtain ⟨j, hj, rfl⟩ := List.getElem_of_mem hb
  have h3 := Lib.indexByte_none h2 j
  apply h3
  rw [List.getElem?_eq_getElem hj]
  congr 1
  exact UInt8.toNat_inj.1 (by simpa using hx0)
 ·refine .inl ⟨h, fun e => ?_⟩
  obtain ⟨o, ho⟩ := Int.eq_ofNat_of_zero_le h
  have h3 := (Lib.indexByte_some ho).1
  obtain ⟨h4, h5⟩ := List.getElem?_eq_some_iff.1 h3
  have hz := Lib.size_eq s
  have h6 : (numsL s).drop o = 0 :: (numsL s).drop (o + 1) := by
   rw [List.drop_eq_getElem_cons (by rw [numsL_length]; omega)]
   congr 1
   simp [numsL, h5]
  have h7 : (cutF (numsL s)).length ≤ o := by
   have e2 : numsL s = (numsL s).take o ++ (0 :: (numsL s).drop (o + 1)) := by rw [← h6, List.take_append_drop]
   have : (List.takeWhile (fun x : Int => decide (x ≠ 0)) ((numsL s).take o ++ (0 :: (numsL s).drop (o + 1)))).length ≤ o := by
    rw [List.takeWhile_append]
    split
    ·simp only [List.takeWhile_cons]
     simp
     omega
    ·have := (List.takeWhile_prefix (fun x : Int => decide (x ≠ 0)) (l := (numsL s).take o)).length_le
     simp at this ⊢
     omega
   unfold cutF
   rw [e2]
   exact this
  have h8 := congrArg ByteArray.size e
  rw [strOfNums_size] at h8
  omega
end Go.Proofs.YtkfcfbggojmfkaaGreatDoor.P
end
