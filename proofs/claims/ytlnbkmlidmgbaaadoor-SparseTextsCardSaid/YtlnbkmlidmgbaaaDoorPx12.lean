/- Lean functions with the answers of the Go functions of this seat, and for each the proof that the Go code comes to them (made by the session's program over the kit's print). No conditions. -/
import Derived.Test.YtlnbkmlidmgbaaaDoorPx0
import Derived.Test.YtlnbkmlidmgbaaaDoorPx5
namespace Go.Proofs.YtlnbkmlidmgbaaaDoor.P
open Go.RowKit Go.Proofs.YtlnbkmlidmgbaaaDoorW.PrintWords Go.Proofs.YtlnbkmlidmgbaaaDoorW.PrintLast Go.Proofs.YtlnbkmlidmgbaaaDoorW.PrintMore
attribute [local go_sem] max2_int min2_int max_two min_two max_three min_three max_four min_four   -- for this text's walks alone
set_option linter.unusedVariables false
set_option linter.unusedSimpArgs false

/-! ### mudlarklaw09_Block: function 24 -/
mutual
def mudlarklaw09_Block.l0 : Nat → List Int → List Int → List (S40) → Int → Option (List Int)
 | 0, _, _, _, _ => none
 | k + 1, x0, x3, x4, x7 => if x7 < (x4.length : Int) then (mudlarklaw09_Block.j1 k x0 x3 x4 x7 (decide (x7 < 21))) else (mudlarklaw09_Block.j1 k x0 x3 x4 x7 false)
def mudlarklaw09_Block.j1 : Nat → List Int → List Int → List (S40) → Int → Bool → Option (List Int)
 | 0, _, _, _, _, _ => none
 | k + 1, x0, x3, x4, x7, x25 => if x25 = true then (if 0 ≤ x7 then (if x7 < (x4.length : Int) then (mudlarklaw09_Block.l1 k x0 x3 x4 x7 ((rd_T40 x4 x7).f0) ((rd_T40 x4 x7).f1) 10) else (none)) else (none)) else (if (x0.length : Int) > 1 then (if 0 < (x0.length : Int) then (if 504 < (x3.length : Int) then ((some (x3.set (504 : Int).toNat (Int.tmod (rd x0 0) 2) : List Int)).bind fun y263 => (if 1 < (x0.length : Int) then (if (rd x0 1) > 240 then (if 0 ≤ (wrap64 ((wrap64 (24 * (wrap64 (Int.tmod (rd x0 0) 21)))) + 3)) then (if (wrap64 ((wrap64 (24 * (wrap64 (Int.tmod (rd x0 0) 21)))) + 3)) < (x3.length : Int) then (some (y263.set ((wrap64 ((wrap64 (24 * (wrap64 (Int.tmod (rd x0 0) 21)))) + 3)) : Int).toNat (rd x0 1))) else (none)) else (none)) else (some y263)) else (none))) else (none)) else (none)) else (some x3))
def mudlarklaw09_Block.l1 : Nat → List Int → List Int → List (S40) → Int → Int → Int → Int → Option (List Int)
 | 0, _, _, _, _, _, _, _ => none
 | k + 1, x0, x3, x4, x7, x8, x9, x10 => if x10 ≥ 0 then (if 0 ≤ (wrap64 ((wrap64 (24 * x7)) + x10)) then (if (wrap64 ((wrap64 (24 * x7)) + x10)) < (x3.length : Int) then (if 0 ≤ (wrap64 ((wrap64 ((wrap64 (24 * x7)) + 12)) + x10)) then (if (wrap64 ((wrap64 ((wrap64 (24 * x7)) + 12)) + x10)) < (x3.length : Int) then (mudlarklaw09_Block.l1 k x0 ((x3.set ((wrap64 ((wrap64 (24 * x7)) + x10)) : Int).toNat (48 + ((mx x8 0) % 8))).set ((wrap64 ((wrap64 ((wrap64 (24 * x7)) + 12)) + x10)) : Int).toNat ((wrap64 (48 + (Int.tmod x9 8))) % 256)) x4 x7 (wrap64 (Int.tdiv x8 8)) (wrap64 (Int.tdiv x9 8)) (wrap64 (x10 - 1))) else (none)) else (none)) else (none)) else (none)) else (mudlarklaw09_Block.l0 k x0 x3 x4 (wrap64 (x7 + 1)))
end
def mudlarklaw09_Block.f (k : Nat) (l0 : List Int) : Option (List Int) := if 512 ≤ 281474976710656 then ((mudlarklaw09_Parts.f k l0).bind fun bt253 => (mudlarklaw09_Block.l0 k l0 (List.replicate 512 0) bt253.1 0)) else (none)
theorem mudlarklaw09_Block.mono_l : ∀ k, (∀ y0 y1 y2 y3, LeO (mudlarklaw09_Block.l0 k y0 y1 y2 y3) (mudlarklaw09_Block.l0 (k + 1) y0 y1 y2 y3)) ∧ (∀ y0 y1 y2 y3 y4, LeO (mudlarklaw09_Block.j1 k y0 y1 y2 y3 y4) (mudlarklaw09_Block.j1 (k + 1) y0 y1 y2 y3 y4)) ∧ (∀ y0 y1 y2 y3 y4 y5 y6, LeO (mudlarklaw09_Block.l1 k y0 y1 y2 y3 y4 y5 y6) (mudlarklaw09_Block.l1 (k + 1) y0 y1 y2 y3 y4 y5 y6))
 | 0 => ⟨fun _ _ _ _ r h => by simp [mudlarklaw09_Block.l0] at h, fun _ _ _ _ _ r h => by simp [mudlarklaw09_Block.j1] at h, fun _ _ _ _ _ _ _ r h => by simp [mudlarklaw09_Block.l1] at h⟩
 | k + 1 => by
  obtain ⟨ih0, ih1, ih2⟩ := mudlarklaw09_Block.mono_l k
  refine ⟨?_, ?_, ?_⟩
  ·intro y0 y1 y2 y3
   unfold mudlarklaw09_Block.l0
   repeat' first
   | (with_reducible exact ih0 _ _ _ _)
   | (with_reducible exact ih1 _ _ _ _ _)
   | (with_reducible exact ih2 _ _ _ _ _ _ _)
   | (with_reducible exact mudlarklaw09_Parts.mono _ _)
   | (with_reducible exact LeO.refl _)
   | (with_reducible exact LeO.none _)
   | (with_reducible refine LeO.ite ?_ ?_)
   | (with_reducible refine LeO.bind ?_ (fun _ => ?_))
   | exact ih0 _ _ _ _
   | exact ih1 _ _ _ _ _
   | exact ih2 _ _ _ _ _ _ _
   | exact mudlarklaw09_Parts.mono _ _
   | exact LeO.none _
   | refine LeO.ite ?_ ?_
   | refine LeO.bind ?_ (fun _ => ?_)
  ·intro y0 y1 y2 y3 y4
   unfold mudlarklaw09_Block.j1
   repeat' first
   | (with_reducible exact ih0 _ _ _ _)
   | (with_reducible exact ih1 _ _ _ _ _)
   | (with_reducible exact ih2 _ _ _ _ _ _ _)
   | (with_reducible exact mudlarklaw09_Parts.mono _ _)
   | (with_reducible exact LeO.refl _)
   | (with_reducible exact LeO.none _)
   | (with_reducible refine LeO.ite ?_ ?_)
   | (with_reducible refine LeO.bind ?_ (fun _ => ?_))
   | exact ih0 _ _ _ _
   | exact ih1 _ _ _ _ _
   | exact ih2 _ _ _ _ _ _ _
   | exact mudlarklaw09_Parts.mono _ _
   | exact LeO.none _
   | refine LeO.ite ?_ ?_
   | refine LeO.bind ?_ (fun _ => ?_)
  ·intro y0 y1 y2 y3 y4 y5 y6
   unfold mudlarklaw09_Block.l1
   repeat' first
   | (with_reducible exact ih0 _ _ _ _)
   | (with_reducible exact ih1 _ _ _ _ _)
   | (with_reducible exact ih2 _ _ _ _ _ _ _)
   | (with_reducible exact mudlarklaw09_Parts.mono _ _)
   | (with_reducible exact LeO.refl _)
   | (with_reducible exact LeO.none _)
   | (with_reducible refine LeO.ite ?_ ?_)
   | (with_reducible refine LeO.bind ?_ (fun _ => ?_))
   | exact ih0 _ _ _ _
   | exact ih1 _ _ _ _ _
   | exact ih2 _ _ _ _ _ _ _
   | exact mudlarklaw09_Parts.mono _ _
   | exact LeO.none _
   | refine LeO.ite ?_ ?_
   | refine LeO.bind ?_ (fun _ => ?_)
theorem mudlarklaw09_Block.mono : ∀ a0 k, LeO (mudlarklaw09_Block.f k a0) (mudlarklaw09_Block.f (k + 1) a0) := by
 intro a0 k
 obtain ⟨ih0, ih1, ih2⟩ := mudlarklaw09_Block.mono_l k
 unfold mudlarklaw09_Block.f
 repeat' first
   | (with_reducible exact ih0 _ _ _ _)
   | (with_reducible exact ih1 _ _ _ _ _)
   | (with_reducible exact ih2 _ _ _ _ _ _ _)
   | (with_reducible exact mudlarklaw09_Parts.mono _ _)
   | (with_reducible exact LeO.refl _)
   | (with_reducible exact LeO.none _)
   | (with_reducible refine LeO.ite ?_ ?_)
   | (with_reducible refine LeO.bind ?_ (fun _ => ?_))
   | exact ih0 _ _ _ _
   | exact ih1 _ _ _ _ _
   | exact ih2 _ _ _ _ _ _ _
   | exact mudlarklaw09_Parts.mono _ _
   | exact LeO.none _
   | refine LeO.ite ?_ ?_
   | refine LeO.bind ?_ (fun _ => ?_)
def mudlarklaw09_Block.T18 : Bool × List (List Nat × List Nat) := (true, [([], []), ([], []), ([1], [1]), ([2], [2]), ([3], [3]), ([4], [4]), ([5], [5]), ([6], [6]), ([], []), ([8], [8]), ([9], [9]), ([0, 7, 0, 1, 2, 3, 4, 5, 6, 7, 8, 9, 10], [0, 7]), ([11, 10, 0, 1, 2, 3, 4, 5, 6, 7, 8, 9, 10], [10, 11])])
def mudlarklaw09_Block.B18 : List Nat := [0, 0, 2, 6, 14, 30, 62, 126, 0, 256, 768, 2047, 4095]
theorem mudlarklaw09_Block.tab18 : rtab .any (opsOf Tryd.f24 18) = mudlarklaw09_Block.T18 := by kernel_rfl
theorem mudlarklaw09_Block.bits18 : waitsOk mudlarklaw09_Block.T18.2 mudlarklaw09_Block.B18 = true := by kernel_rfl
set_option maxHeartbeats 8000000 in
set_option maxRecDepth 100000 in
theorem mudlarklaw09_Block.calls (k : Nat) (A0 : Option Addr) (c0 : Nat) (l0 : List Int) (r : List Int) (w : World) (hr0 : Kd.C (Kd.int .u8) w A0 l0.length l0) (hc0 : l0.length ≤ c0) (h : mudlarklaw09_Block.f k l0 = some r) :
  Calls Tryd.prog 24 #[.slice A0 l0.length c0] w fun e w' => ∃ v0_ : Value, e = .returned (v0_) ∧ Kd.R (Kd.int .u8) 5 w' w.heap.size (fun _ => True) v0_ r ∧ Below w.heap.size w w' := by
 have HR0 := Aside0.mk hr0
 have HC0 := Aside0.mk hc0
 clear hr0 hc0
 have HB := Aside0.mk (Below.refl w.heap.size w)
 have H : (if 512 ≤ 281474976710656 then ((mudlarklaw09_Parts.f k l0).bind fun bt253 => (mudlarklaw09_Block.l0 k l0 (List.replicate 512 0) bt253.1 0)) else (none)) = some r := h
 clear h
 by_cases c2 : 512 ≤ 281474976710656
 ·rw [if_pos c2] at H
  have c2b0 := eq_true c2
  have c2b1 : decide (512 ≤ 281474976710656) = true := decide_eq_true c2
  clear c2
  obtain ⟨y250, hy250⟩ : ∃ y_ : List Int, y_ = (List.replicate 512 0) := ⟨_, rfl⟩
  replace H : ((mudlarklaw09_Parts.f k l0).bind fun bt253 => (mudlarklaw09_Block.l0 k l0 y250 bt253.1 0)) = some r := by first | (rw [hy250]; with_reducible exact H) | (have H2_ := (Option.bind_some _ _).symm.trans H; rw [hy250]; with_reducible exact H2_) | (have H2_ := (Option.bind_some _ _).symm.trans H; with_reducible exact H2_) | with_reducible exact H | (rw [hy250]; exact H) | exact H
  have Ny250 := Aside0.mk hy250
  clear hy250
  replace H := Option.bind_eq_some_iff.mp H
  obtain ⟨⟨t253, t254, t255⟩, A30, H⟩ := H
  replace H : (mudlarklaw09_Block.l0 k l0 y250 t253 0) = some r := H
  have A3 := Aside0.mk A30
  clear A30
  have H' := Aside0.mk H
  clear H
  go_enter Tryd.func24, Tryd.ntmps24
  go_wp2_with (first | ((with_reducible refine gate_dst (N := 11) rfl ?_); refine Kd.R_make (Kd.int .u8) _ 5 rfl (N := 11) rfl 22 _ _ rfl 512 rfl rfl Tryd.underlying22 (.int .u8 0) 1 info5 rfl (by decide) (by omega) 0 (ok := fun _ => True) (okp := fun _ => True) rfl (fun _ hk => hk) trivial (by omega) (by omega) (Below.refl _ _) (Nat.le_refl _) ?_; intro v251 w4 ho5 hb hg_ hnew_; clear hg_ hnew_; (first | rw [← Ny250.out] at ho5 | (simp only [Int.reduceToNat] at ho5; rw [← Ny250.out] at ho5)); have n0_ := Aside0.mk (Kd.R_lower ho5 (below_size (by repeat (first | (with_reducible first | exact HB.out | apply below_alloc | apply pw_below_drewN | apply below_drew1) | exact HB.out)))); have n1_ := Aside0.mk (below_step (by repeat (first | (with_reducible first | exact HB.out | apply below_alloc | apply pw_below_drewN | apply below_drew1) | exact HB.out)) hb); clear HB; have HO252 := n0_; have HB := n1_; clear n0_ n1_; clear hb ho5) | ((with_reducible refine gate_callee (f := 9) rfl ?_); refine goesL_ (some 14) rfl rfl Tryd.func9 (by kernel_rfl) rfl #[.slice A0 l0.length c0] rfl (by (try simp only [List.map_toArray, List.map_cons, List.map_nil]); first | done | rfl | (simp only [List.length_drop, List.length_take]; rfl)) ?_; (with_reducible refine (mudlarklaw09_Parts.calls k _ _ l0 t253 t254 t255 _ ?side1 ?side2 A3.out).mono ?_); (case side1 => repeat (first | exact (Kd.C_below HR0.out HB.out) | (with_reducible refine Kd.C_alloc ?_ _) | (with_reducible refine Kd.C_drewN ?_ _) | (with_reducible refine Kd.C_drew ?_))); (case side2 => exact HC0.out); rintro e w6 ⟨v256, rfl, ho0, hb⟩; refine ⟨_, rfl, ?_⟩; have n0_ := Aside0.mk (Kd.R_below (by (with_reducible repeat (first | apply Kd.R_alloc | apply Kd.R_drewN | apply Kd.R_drew)); exact HO252.out) hb); have n1_ := Aside0.mk (Kd.R_lower ho0 (below_size (by repeat (first | (with_reducible first | exact HB.out | apply below_alloc | apply pw_below_drewN | apply below_drew1) | exact HB.out)))); have n2_ := Aside0.mk (below_step (by repeat (first | (with_reducible first | exact HB.out | apply below_alloc | apply pw_below_drewN | apply below_drew1) | exact HB.out)) hb); clear HO252; clear HB; have HO252 := n0_; have HO257 := n1_; have HB := n2_; clear n0_ n1_ n2_; (try clear hb); (try clear hb2); (try clear hk); (try clear hi); (try clear ho0)))
  go_loopg [7] k (fun kq v7 w' => ∃ (x3_1 : List Int) (x7_1 : Int), v7 = .int .i64 x7_1 ∧ Aside0 (mudlarklaw09_Block.l0 kq l0 x3_1 t253 x7_1 = some r) ∧ Aside0 (kq ≤ k) ∧ Aside0 (Kd.R (Kd.int .u8) 5 w' w.heap.size (fun _ => True) v251 x3_1) ∧ Aside0 (Kd.R k40 40 w' w.heap.size (fun _ => True) v256 t253) ∧ Aside0 (Below w.heap.size w w'))
  case atStart => exact ⟨(y250), (0), (by first | rfl | (simp; done) | (simp [*]; done)), H', ⟨Nat.le_refl _⟩, ⟨by (with_reducible repeat (first | apply Kd.R_alloc | apply Kd.R_drewN | apply Kd.R_drew)); exact HO252.out⟩, ⟨by (with_reducible repeat (first | apply Kd.R_alloc | apply Kd.R_drewN | apply Kd.R_drew)); exact HO257.out⟩, ⟨by repeat (first | (with_reducible first | exact HB.out | apply below_alloc | apply pw_below_drewN | apply below_drew1) | exact HB.out)⟩⟩
  case round =>
   clear H'
   try clear c2
   try clear c2b0
   try clear c2b1
   try clear p2
   obtain ⟨x3_1, x7_1, rfl, HA, HK1, HO_3, HO_4, HB⟩ := hrel
   cases gk with
   | zero => exact absurd HA.out (by simp [mudlarklaw09_Block.l0])
   | succ k1 =>
    have H := HA.out
    clear HA
    simp only [mudlarklaw09_Block.l0] at H
    have HC7 := Aside0.mk H
    clear H
    go_upto_region 4 with (fail)
    go_cut [25] (fun v25 wc => ∃ (kq : Nat) (x25_6 : Bool), v25 = .bool x25_6 ∧ Aside0 (mudlarklaw09_Block.j1 kq l0 x3_1 t253 x7_1 x25_6 = some r) ∧ Aside0 (kq ≤ k1) ∧ Aside0 (Kd.R (Kd.int .u8) 5 wc w.heap.size (fun _ => True) v251 x3_1) ∧ Aside0 (Kd.R k40 40 wc w.heap.size (fun _ => True) v256 t253) ∧ Aside0 (Below w.heap.size w wc))
    case first =>
     have H := HC7.out
     clear HC7
     by_cases c8 : x7_1 < (t253.length : Int)
     ·rw [if_pos c8] at H
      have c8b0 : decide (x7_1 < (t253.length : Int)) = true := decide_eq_true c8
      clear c8
      (first | rw [c8b0] | (simp only [i64_w, i32_w]; rw [c8b0]) | skip)
      have H' := Aside0.mk H
      clear H
      obtain ⟨Ao9, co9, eo9⟩ := Kd.R_slice HO_4.out
      subst eo9
      go_wp2
      go_meet
      case rel => exact ⟨_, (decide (x7_1 < 21)), (by first | rfl | (simp; done) | (simp [*]; done)), H', ⟨by have := HK1.out; first | omega | exact Nat.le_refl _⟩, ⟨by (with_reducible repeat (first | apply Kd.R_alloc | apply Kd.R_drewN | apply Kd.R_drew)); exact HO_3.out⟩, ⟨by (with_reducible repeat (first | apply Kd.R_alloc | apply Kd.R_drewN | apply Kd.R_drew)); exact HO_4.out⟩, ⟨by repeat (first | (with_reducible first | exact HB.out | apply below_alloc | apply pw_below_drewN | apply below_drew1) | exact HB.out)⟩⟩
     ·rw [if_neg c8] at H
      have c8b0 : decide (x7_1 < (t253.length : Int)) = false := decide_eq_false c8
      clear c8
      (first | rw [c8b0] | (simp only [i64_w, i32_w]; rw [c8b0]) | skip)
      have H' := Aside0.mk H
      clear H
      obtain ⟨Ao10, co10, eo10⟩ := Kd.R_slice HO_4.out
      subst eo10
      go_wp2
      go_meet
      case rel => exact ⟨_, (false), (by first | rfl | (simp; done) | (simp [*]; done)), H', ⟨by have := HK1.out; first | omega | exact Nat.le_refl _⟩, ⟨by (with_reducible repeat (first | apply Kd.R_alloc | apply Kd.R_drewN | apply Kd.R_drew)); exact HO_3.out⟩, ⟨by (with_reducible repeat (first | apply Kd.R_alloc | apply Kd.R_drewN | apply Kd.R_drew)); exact HO_4.out⟩, ⟨by repeat (first | (with_reducible first | exact HB.out | apply below_alloc | apply pw_below_drewN | apply below_drew1) | exact HB.out)⟩⟩
    case rest =>
     clear HC7
     try clear c2
     try clear c2b0
     try clear c2b1
     try clear p2
     try clear c8
     try clear c8b0
     try clear c9
     try clear p2
     obtain ⟨kq, x25_6, rfl, HA, HJ6, HO_3, HO_4, HB⟩ := hcut
     cases kq with
     | zero => exact absurd HA.out (by simp [mudlarklaw09_Block.j1])
     | succ kj6 =>
      have H := HA.out
      clear HA
      simp only [mudlarklaw09_Block.j1] at H
      by_cases c11 : x25_6 = true
      ·subst c11
       have H1 : (if 0 ≤ x7_1 then (if x7_1 < (t253.length : Int) then (mudlarklaw09_Block.l1 kj6 l0 x3_1 t253 x7_1 ((rd_T40 t253 x7_1).f0) ((rd_T40 t253 x7_1).f1) 10) else (none)) else (none)) = some r := by rw [if_pos rfl] at H; exact H
       clear H
       have H := H1
       clear H1
       by_cases c12 : 0 ≤ x7_1
       ·rw [if_pos c12] at H
        have c12b0 : decide (0 ≤ x7_1) = true := decide_eq_true c12
        clear c12
        by_cases c13 : x7_1 < (t253.length : Int)
        ·rw [if_pos c13] at H
         have c13b0 : decide (x7_1 < (t253.length : Int)) = true := decide_eq_true c13
         clear c13
         have H' := Aside0.mk H
         clear H
         obtain ⟨Ao14, co14, eo14⟩ := Kd.R_slice HO_4.out
         subst eo14
         have p258 : 0 ≤ (x7_1 : Int) := of_decide_eq_true (by first | (with_reducible assumption) | assumption)
         have q258 : x7_1 < (t253.length : Int) := of_decide_eq_true (by first | (with_reducible assumption) | assumption)
         obtain ⟨ad258, e258, hx258_0, hx258_1⟩ := at_T40 (Kd.R_reads' HO_4.out).2.2 x7_1 p258 q258
         cases e258
         replace p258 := eq_true p258
         replace q258 := eq_true q258
         have p259 : 0 ≤ (x7_1 : Int) := of_decide_eq_true (by first | (with_reducible assumption) | assumption)
         have q259 : x7_1 < (t253.length : Int) := of_decide_eq_true (by first | (with_reducible assumption) | assumption)
         obtain ⟨ad259, e259, hx259_0, hx259_1⟩ := at_T40 (Kd.R_reads' HO_4.out).2.2 x7_1 p259 q259
         obtain rfl : ad258 = ad259 := (by injection e259)
         replace p259 := eq_true p259
         replace q259 := eq_true q259
         go_wp2
         go_loopg [8, 9, 10] kj6 (fun kq v8 v9 v10 w' => ∃ (x3_3 : List Int) (x8_3 : Int) (x9_3 : Int) (x10_3 : Int), v8 = .int .i64 x8_3 ∧ v9 = .int .i64 x9_3 ∧ v10 = .int .i64 x10_3 ∧ Aside0 (mudlarklaw09_Block.l1 kq l0 x3_3 t253 x7_1 x8_3 x9_3 x10_3 = some r) ∧ Aside0 (kq ≤ kj6) ∧ Aside0 (Kd.R (Kd.int .u8) 5 w' w.heap.size (fun _ => True) v251 x3_3) ∧ Aside0 (Kd.R k40 40 w' w.heap.size (fun _ => True) (.slice (some ad258) t253.length co14) t253) ∧ Aside0 (Below w.heap.size w w'))
         case atStart => exact ⟨(x3_1), ((rd_T40 t253 x7_1).f0), ((rd_T40 t253 x7_1).f1), (10), (by first | rfl | (simp; done) | (simp [*]; done)), (by first | rfl | (simp; done) | (simp [*]; done)), (by first | rfl | (simp; done) | (simp [*]; done)), H', ⟨Nat.le_refl _⟩, ⟨by (with_reducible repeat (first | apply Kd.R_alloc | apply Kd.R_drewN | apply Kd.R_drew)); exact HO_3.out⟩, ⟨by (with_reducible repeat (first | apply Kd.R_alloc | apply Kd.R_drewN | apply Kd.R_drew)); exact HO_4.out⟩, ⟨by repeat (first | (with_reducible first | exact HB.out | apply below_alloc | apply pw_below_drewN | apply below_drew1) | exact HB.out)⟩⟩
         case round =>
          clear H'
          try clear c1
          try clear c2
          try clear c2b0
          try clear c2b1
          try clear p2
          try clear q2
          try clear hx2
          try clear c8
          try clear c8b0
          try clear c9
          try clear c11
          try clear c12
          try clear c12b0
          try clear c13
          try clear c13b0
          try clear hx258_0
          try clear hx258_1
          try clear hx259_0
          try clear hx259_1
          try clear p2
          try clear p258
          try clear p259
          try clear q258
          try clear q259
          obtain ⟨x3_3, x8_3, x9_3, x10_3, rfl, rfl, rfl, HA, HK3, HO_3, HO_4, HB⟩ := hrel
          cases gk with
          | zero => exact absurd HA.out (by simp [mudlarklaw09_Block.l1])
          | succ k3 =>
           have H := HA.out
           clear HA
           simp only [mudlarklaw09_Block.l1] at H
           by_cases c15 : x10_3 ≥ 0
           ·rw [if_pos c15] at H
            have c15b0 : decide (0 ≤ x10_3) = true := decide_eq_true c15
            clear c15
            obtain ⟨ji16, hji16⟩ : ∃ j_ : Int, (mx x8_3 0) = j_ := ⟨_, rfl⟩
            replace H : (if 0 ≤ (wrap64 ((wrap64 (24 * x7_1)) + x10_3)) then (if (wrap64 ((wrap64 (24 * x7_1)) + x10_3)) < (x3_3.length : Int) then (if 0 ≤ (wrap64 ((wrap64 ((wrap64 (24 * x7_1)) + 12)) + x10_3)) then (if (wrap64 ((wrap64 ((wrap64 (24 * x7_1)) + 12)) + x10_3)) < (x3_3.length : Int) then (mudlarklaw09_Block.l1 k3 l0 ((x3_3.set ((wrap64 ((wrap64 (24 * x7_1)) + x10_3)) : Int).toNat (48 + ((ji16) % 8))).set ((wrap64 ((wrap64 ((wrap64 (24 * x7_1)) + 12)) + x10_3)) : Int).toNat ((wrap64 (48 + (Int.tmod x9_3 8))) % 256)) t253 x7_1 (wrap64 (Int.tdiv x8_3 8)) (wrap64 (Int.tdiv x9_3 8)) (wrap64 (x10_3 - 1))) else (none)) else (none)) else (none)) else (none)) = some r := by first | (rw [hji16] at H; exact H) | (simp only [hji16] at H ⊢; exact H)
            have hji16_ : (if x8_3 < 0 then 0 else x8_3) = ji16 := hji16
            obtain ⟨ji17, hji17⟩ : ∃ j_ : Int, (wrap64 ((wrap64 (24 * x7_1)) + x10_3)) = j_ := ⟨_, rfl⟩
            replace H : (if 0 ≤ (ji17) then (if (ji17) < (x3_3.length : Int) then (if 0 ≤ (wrap64 ((wrap64 ((wrap64 (24 * x7_1)) + 12)) + x10_3)) then (if (wrap64 ((wrap64 ((wrap64 (24 * x7_1)) + 12)) + x10_3)) < (x3_3.length : Int) then (mudlarklaw09_Block.l1 k3 l0 ((x3_3.set ((ji17) : Int).toNat (48 + ((ji16) % 8))).set ((wrap64 ((wrap64 ((wrap64 (24 * x7_1)) + 12)) + x10_3)) : Int).toNat ((wrap64 (48 + (Int.tmod x9_3 8))) % 256)) t253 x7_1 (wrap64 (Int.tdiv x8_3 8)) (wrap64 (Int.tdiv x9_3 8)) (wrap64 (x10_3 - 1))) else (none)) else (none)) else (none)) else (none)) = some r := by first | (rw [hji17] at H; exact H) | (simp only [hji17] at H ⊢; exact H)
            have hji17w : (IntKind.i64.wrap ((wrap64 (24 * x7_1)) + x10_3)) = ji17 := (i64_w _).trans hji17
            by_cases c18 : 0 ≤ (ji17)
            ·rw [if_pos c18] at H
             have c18b0 : decide (0 ≤ (ji17)) = true := decide_eq_true c18
             clear c18
             by_cases c19 : (ji17) < (x3_3.length : Int)
             ·rw [if_pos c19] at H
              have c19b0 : decide ((ji17) < (x3_3.length : Int)) = true := decide_eq_true c19
              clear c19
              obtain ⟨y260, hy260⟩ : ∃ y_ : List Int, y_ = (x3_3.set ((ji17) : Int).toNat (48 + ((ji16) % 8))) := ⟨_, rfl⟩
              replace H : (if 0 ≤ (wrap64 ((wrap64 ((wrap64 (24 * x7_1)) + 12)) + x10_3)) then (if (wrap64 ((wrap64 ((wrap64 (24 * x7_1)) + 12)) + x10_3)) < (x3_3.length : Int) then (mudlarklaw09_Block.l1 k3 l0 (y260.set ((wrap64 ((wrap64 ((wrap64 (24 * x7_1)) + 12)) + x10_3)) : Int).toNat ((wrap64 (48 + (Int.tmod x9_3 8))) % 256)) t253 x7_1 (wrap64 (Int.tdiv x8_3 8)) (wrap64 (Int.tdiv x9_3 8)) (wrap64 (x10_3 - 1))) else (none)) else (none)) = some r := by first | (rw [hy260]; with_reducible exact H) | (have H2_ := (Option.bind_some _ _).symm.trans H; rw [hy260]; with_reducible exact H2_) | (have H2_ := (Option.bind_some _ _).symm.trans H; with_reducible exact H2_) | with_reducible exact H | (rw [hy260]; exact H) | exact H
              have Ny260 := Aside0.mk hy260
              clear hy260
              obtain ⟨ji21, hji21⟩ : ∃ j_ : Int, (wrap64 ((wrap64 ((wrap64 (24 * x7_1)) + 12)) + x10_3)) = j_ := ⟨_, rfl⟩
              replace H : (if 0 ≤ (ji21) then (if (ji21) < (x3_3.length : Int) then (mudlarklaw09_Block.l1 k3 l0 (y260.set ((ji21) : Int).toNat ((wrap64 (48 + (Int.tmod x9_3 8))) % 256)) t253 x7_1 (wrap64 (Int.tdiv x8_3 8)) (wrap64 (Int.tdiv x9_3 8)) (wrap64 (x10_3 - 1))) else (none)) else (none)) = some r := by first | (rw [hji21] at H; exact H) | (simp only [hji21] at H ⊢; exact H)
              have hji21w : (IntKind.i64.wrap ((wrap64 ((wrap64 (24 * x7_1)) + 12)) + x10_3)) = ji21 := (i64_w _).trans hji21
              by_cases c22 : 0 ≤ (ji21)
              ·rw [if_pos c22] at H
               have c22b0 : decide (0 ≤ (ji21)) = true := decide_eq_true c22
               clear c22
               by_cases c23 : (ji21) < (x3_3.length : Int)
               ·rw [if_pos c23] at H
                have c23b0 : decide ((ji21) < (x3_3.length : Int)) = true := decide_eq_true c23
                clear c23
                obtain ⟨y261, hy261⟩ : ∃ y_ : List Int, y_ = (y260.set ((ji21) : Int).toNat ((wrap64 (48 + (Int.tmod x9_3 8))) % 256)) := ⟨_, rfl⟩
                replace H : (mudlarklaw09_Block.l1 k3 l0 y261 t253 x7_1 (wrap64 (Int.tdiv x8_3 8)) (wrap64 (Int.tdiv x9_3 8)) (wrap64 (x10_3 - 1))) = some r := by first | (rw [hy261]; with_reducible exact H) | (have H2_ := (Option.bind_some _ _).symm.trans H; rw [hy261]; with_reducible exact H2_) | (have H2_ := (Option.bind_some _ _).symm.trans H; with_reducible exact H2_) | with_reducible exact H | (rw [hy261]; exact H) | exact H
                have Ny261 := Aside0.mk hy261
                clear hy261
                have H' := Aside0.mk H
                clear H
                have p20 : 0 ≤ ((ji17) : Int) := of_decide_eq_true (by first | (with_reducible assumption) | assumption)
                have q20 : ((ji17) : Int) < ((x3_3.length : Int) : Int) := of_decide_eq_true (by first | (with_reducible assumption) | assumption)
                obtain ⟨go20, co20, eo20, gb20, gl20, cl20, HG20⟩ := Kd.R_form HO_3.out (by omega)
                (first | cases eo20 | (injection eo20 with ea_ en_ ec_; (first | subst ea_ | (injection ea_ with ea_; subst ea_)); subst ec_; clear en_))
                have GB20 := Aside0.mk gb20
                have GG20 := Aside0.mk HG20
                clear gb20 gl20 HG20
                obtain ⟨hx20_0, hf20_0⟩ := Kd.R_celln 0 HO_3.out ((ji17) : Int) p20 q20
                replace p20 := eq_true p20
                replace q20 := eq_true q20
                have HP25 := Kd.R_putg HO_3.out ((ji17) : Int) (48 + ((ji16) % 8))
                go_wp2_with (first | ((with_reducible refine gate_store (t := 5) (p := 52) rfl ?_); refine store_event (t := 5) (p := 52) (v := ?vo_w26) (w1 := (wr.setCell ⟨go20, ((ji17) : Int).toNat, none⟩ (.int .u8 (48 + ((ji16) % 8))))) ?hg ?ho ?hn ?hr ?_; (case ho => rfl); (case hg => rfl); (case hn => rfl); (case hr => first | (go_simp; done) | (go_simp; rfl)); intro w26 hw; have hg : wr.grownBy w26 (some go20) := (by rw [hw]; exact HP25.2); have hp_ : Kd.R (Kd.int .u8) 5 w26 w.heap.size (fun _ => True) (.slice (some ⟨go20, 0, none⟩) x3_3.length co20) y260 := (by rw [hw, Ny260.out]; exact HP25.1); clear HP25; have n0_ := Aside0.mk (hp_); have n1_ := Aside0.mk (Kd.R_over' (v := (.slice (some ⟨go20, 0, none⟩) x3_3.length co20)) (by (with_reducible repeat (first | apply Kd.R_alloc | apply Kd.R_drewN | apply Kd.R_drew)); exact HO_4.out) (Kd.R_typed HO_3.out) (by decide) hg); have n2_ := Aside0.mk ((by rw [hw]; exact below_set (HB.out) GB20.out : Below w.heap.size w w26)); clear HO_3; clear HO_4; clear HB; have HO_3 := n0_; have HO_4 := n1_; have HB := n2_; clear n0_ n1_ n2_; clear hg hw hp_; have p24 : 0 ≤ ((ji21) : Int) := of_decide_eq_true (by first | (with_reducible assumption) | assumption); have q24 : ((ji21) : Int) < ((x3_3.length : Int) : Int) := of_decide_eq_true (by first | (with_reducible assumption) | assumption); obtain ⟨hx24_0, hf24_0⟩ := Kd.R_celln 0 HO_3.out ((ji21) : Int) p24 q24; replace p24 := eq_true p24; replace q24 := eq_true q24; obtain ⟨hy27_, hz27_⟩ := Kd.R_celln 0 HO_3.out ((ji21) : Int) (of_decide_eq_true (by first | (with_reducible assumption) | assumption)) (of_decide_eq_true (by first | (with_reducible assumption) | assumption)); have HP27 := Kd.R_putg HO_3.out ((ji21) : Int) ((wrap64 (48 + (Int.tmod x9_3 8))) % 256)) | ((with_reducible refine gate_store (t := 5) (p := 63) rfl ?_); refine store_event (t := 5) (p := 63) (v := ?vo_w28) (w1 := (w26.setCell ⟨go20, ((ji21) : Int).toNat, none⟩ (.int .u8 ((wrap64 (48 + (Int.tmod x9_3 8))) % 256)))) ?hg ?ho ?hn ?hr ?_; (case ho => rfl); (case hg => rfl); (case hn => rfl); (case hr => first | (go_simp; done) | (go_simp; rfl)); intro w28 hw; have hg : w26.grownBy w28 (some go20) := (by rw [hw]; exact HP27.2); have hp_ : Kd.R (Kd.int .u8) 5 w28 w.heap.size (fun _ => True) (.slice (some ⟨go20, 0, none⟩) x3_3.length co20) y261 := (by rw [hw, Ny261.out]; exact HP27.1); clear HP27; have n0_ := Aside0.mk (hp_); have n1_ := Aside0.mk (Kd.R_over' (v := (.slice (some ⟨go20, 0, none⟩) x3_3.length co20)) (by (with_reducible repeat (first | apply Kd.R_alloc | apply Kd.R_drewN | apply Kd.R_drew)); exact HO_4.out) (Kd.R_typed HO_3.out) (by decide) hg); have n2_ := Aside0.mk ((by rw [hw]; exact below_set (HB.out) GB20.out : Below w.heap.size w w28)); clear HO_3; clear HO_4; clear HB; have HO_3 := n0_; have HO_4 := n1_; have HB := n2_; clear n0_ n1_ n2_; clear hg hw hp_))
                go_roundg k3
                case measure => have := HK1.out; have := HJ6.out; have := HK3.out; omega
                case rel => exact ⟨(y261), (wrap64 (Int.tdiv x8_3 8)), (wrap64 (Int.tdiv x9_3 8)), (wrap64 (x10_3 - 1)), (by first | rfl | (simp; done) | (simp [*]; done)), (by first | rfl | (simp; done) | (simp [*]; done)), (by first | rfl | (simp; done) | (simp [*]; done)), H', ⟨by have := HK1.out; have := HJ6.out; have := HK3.out; omega⟩, ⟨by (with_reducible repeat (first | apply Kd.R_alloc | apply Kd.R_drewN | apply Kd.R_drew)); exact HO_3.out⟩, ⟨by (with_reducible repeat (first | apply Kd.R_alloc | apply Kd.R_drewN | apply Kd.R_drew)); exact HO_4.out⟩, ⟨by repeat (first | (with_reducible first | exact HB.out | apply below_alloc | apply pw_below_drewN | apply below_drew1) | exact HB.out)⟩⟩
               ·rw [if_neg c23] at H
                exact absurd H (by simp)
              ·rw [if_neg c22] at H
               exact absurd H (by simp)
             ·rw [if_neg c19] at H
              exact absurd H (by simp)
            ·rw [if_neg c18] at H
             exact absurd H (by simp)
           ·rw [if_neg c15] at H
            have c15b0 : decide (0 ≤ x10_3) = false := decide_eq_false c15
            clear c15
            have H' := Aside0.mk H
            clear H
            go_wp2
            go_roundg k3
            case measure => have := HK1.out; have := HJ6.out; have := HK3.out; omega
            case rel => exact ⟨(x3_3), (wrap64 (x7_1 + 1)), (by first | rfl | (simp; done) | (simp [*]; done)), H', ⟨by have := HK1.out; have := HJ6.out; have := HK3.out; omega⟩, ⟨by (with_reducible repeat (first | apply Kd.R_alloc | apply Kd.R_drewN | apply Kd.R_drew)); exact HO_3.out⟩, ⟨by (with_reducible repeat (first | apply Kd.R_alloc | apply Kd.R_drewN | apply Kd.R_drew)); exact HO_4.out⟩, ⟨by repeat (first | (with_reducible first | exact HB.out | apply below_alloc | apply pw_below_drewN | apply below_drew1) | exact HB.out)⟩⟩
        ·rw [if_neg c13] at H
         exact absurd H (by simp)
       ·rw [if_neg c12] at H
        exact absurd H (by simp)
      ·replace c11 := Bool.eq_false_iff.mpr c11
       subst c11
       have H1 : (if (l0.length : Int) > 1 then (if 0 < (l0.length : Int) then (if 504 < (x3_1.length : Int) then ((some (x3_1.set (504 : Int).toNat (Int.tmod (rd l0 0) 2) : List Int)).bind fun y263 => (if 1 < (l0.length : Int) then (if (rd l0 1) > 240 then (if 0 ≤ (wrap64 ((wrap64 (24 * (wrap64 (Int.tmod (rd l0 0) 21)))) + 3)) then (if (wrap64 ((wrap64 (24 * (wrap64 (Int.tmod (rd l0 0) 21)))) + 3)) < (x3_1.length : Int) then (some (y263.set ((wrap64 ((wrap64 (24 * (wrap64 (Int.tmod (rd l0 0) 21)))) + 3)) : Int).toNat (rd l0 1))) else (none)) else (none)) else (some y263)) else (none))) else (none)) else (none)) else (some x3_1)) = some r := by rw [if_neg (show ¬ (false = true) by decide)] at H; exact H
       clear H
       have H := H1
       clear H1
       by_cases c29 : (l0.length : Int) > 1
       ·rw [if_pos c29] at H
        have c29b0 : decide (1 < (l0.length : Int)) = true := decide_eq_true c29
        have c29b1 : decide (1 < l0.length) = true := decide_eq_true (by omega)
        clear c29
        by_cases c30 : 0 < (l0.length : Int)
        ·rw [if_pos c30] at H
         have c30b0 : decide (0 < (l0.length : Int)) = true := decide_eq_true c30
         have c30b1 : decide (0 < l0.length) = true := decide_eq_true (by omega)
         clear c30
         by_cases c31 : 504 < (x3_1.length : Int)
         ·rw [if_pos c31] at H
          have c31b0 : decide (504 < (x3_1.length : Int)) = true := decide_eq_true c31
          have c31b1 : decide (504 < x3_1.length) = true := decide_eq_true (by omega)
          clear c31
          obtain ⟨y263, hy263⟩ : ∃ y_ : List Int, y_ = (x3_1.set (504 : Int).toNat (Int.tmod (rd l0 0) 2)) := ⟨_, rfl⟩
          replace H : (if 1 < (l0.length : Int) then (if (rd l0 1) > 240 then (if 0 ≤ (wrap64 ((wrap64 (24 * (wrap64 (Int.tmod (rd l0 0) 21)))) + 3)) then (if (wrap64 ((wrap64 (24 * (wrap64 (Int.tmod (rd l0 0) 21)))) + 3)) < (x3_1.length : Int) then (some (y263.set ((wrap64 ((wrap64 (24 * (wrap64 (Int.tmod (rd l0 0) 21)))) + 3)) : Int).toNat (rd l0 1))) else (none)) else (none)) else (some y263)) else (none)) = some r := by first | (rw [hy263]; with_reducible exact H) | (have H2_ := (Option.bind_some _ _).symm.trans H; rw [hy263]; with_reducible exact H2_) | (have H2_ := (Option.bind_some _ _).symm.trans H; with_reducible exact H2_) | with_reducible exact H | (rw [hy263]; exact H) | exact H
          have Ny263 := Aside0.mk hy263
          clear hy263
          by_cases c33 : 1 < (l0.length : Int)
          ·rw [if_pos c33] at H
           have c33b0 : decide (1 < (l0.length : Int)) = true := decide_eq_true c33
           have c33b1 : decide (1 < l0.length) = true := decide_eq_true (by omega)
           clear c33
           by_cases c34 : (rd l0 1) > 240
           ·rw [if_pos c34] at H
            have c34b0 : decide (240 < (rd l0 1)) = true := decide_eq_true c34
            clear c34
            obtain ⟨ji35, hji35⟩ : ∃ j_ : Int, (wrap64 ((wrap64 (24 * (wrap64 (Int.tmod (rd l0 0) 21)))) + 3)) = j_ := ⟨_, rfl⟩
            replace H : (if 0 ≤ (ji35) then (if (ji35) < (x3_1.length : Int) then (some (y263.set ((ji35) : Int).toNat (rd l0 1))) else (none)) else (none)) = some r := by first | (rw [hji35] at H; exact H) | (simp only [hji35] at H ⊢; exact H)
            have hji35w : (IntKind.i64.wrap ((wrap64 (24 * (wrap64 (Int.tmod (rd l0 0) 21)))) + 3)) = ji35 := (i64_w _).trans hji35
            by_cases c36 : 0 ≤ (ji35)
            ·rw [if_pos c36] at H
             have c36b0 : decide (0 ≤ (ji35)) = true := decide_eq_true c36
             clear c36
             by_cases c37 : (ji35) < (x3_1.length : Int)
             ·rw [if_pos c37] at H
              have c37b0 : decide ((ji35) < (x3_1.length : Int)) = true := decide_eq_true c37
              clear c37
              obtain ⟨y267, hy267⟩ : ∃ y_ : List Int, y_ = (y263.set ((ji35) : Int).toNat (rd l0 1)) := ⟨_, rfl⟩
              replace H : (some y267) = some r := by first | (rw [hy267]; with_reducible exact H) | (have H2_ := (Option.bind_some _ _).symm.trans H; rw [hy267]; with_reducible exact H2_) | (have H2_ := (Option.bind_some _ _).symm.trans H; with_reducible exact H2_) | with_reducible exact H | (rw [hy267]; exact H) | exact H
              have Ny267 := Aside0.mk hy267
              clear hy267
              obtain rfl := Option.some.inj H
              have p262 : 0 ≤ (0 : Int) := (by omega)
              have q262 : 0 < (l0.length : Int) := of_decide_eq_true (by first | (with_reducible assumption) | assumption)
              obtain ⟨ad262, e262, hx262_0⟩ := Kd.at_int HR0.out 0 p262 q262
              cases e262
              have qi262 : (0 < l0.length) = True := eq_true (by omega)
              (try rw [show ((0 : Int)).toNat = 0 from rfl] at hx262_0)
              (try rw [Addr.add_zero'] at hx262_0)
              replace hx262_0 := (HB.out.cell (World.block_lt_of_cell? w _ hx262_0)).trans hx262_0
              replace p262 := eq_true p262
              replace q262 := eq_true q262
              have p32 : 0 ≤ (504 : Int) := (by omega)
              have q32 : (504 : Int) < ((x3_1.length : Int) : Int) := of_decide_eq_true (by first | (with_reducible assumption) | assumption)
              have qi32 : (504 < x3_1.length) = True := eq_true (by omega)
              obtain ⟨go32, co32, eo32, gb32, gl32, cl32, HG32⟩ := Kd.R_form HO_3.out (by omega)
              (first | cases eo32 | (injection eo32 with ea_ en_ ec_; (first | subst ea_ | (injection ea_ with ea_; subst ea_)); subst ec_; clear en_))
              have GB32 := Aside0.mk gb32
              have GG32 := Aside0.mk HG32
              clear gb32 gl32 HG32
              obtain ⟨hx32_0, hf32_0⟩ := Kd.R_celln 0 HO_3.out (504 : Int) p32 q32
              (try rw [show ((504 : Int)).toNat = 504 from rfl] at hx32_0)
              (try simp only [Nat.reduceMul, Nat.zero_mul, Nat.zero_add, Nat.reduceAdd] at hx32_0)
              (try rw [show ((504 : Int)).toNat = 504 from rfl] at hf32_0)
              (try simp only [Nat.reduceMul, Nat.zero_mul, Nat.zero_add, Nat.reduceAdd] at hf32_0)
              replace p32 := eq_true p32
              replace q32 := eq_true q32
              have HP39 := Kd.R_putg HO_3.out (504 : Int) (Int.tmod (rd l0 0) 2)
              try go_wp2_with (first | ((with_reducible refine gate_store (t := 5) (p := 76) rfl ?_); refine store_event (t := 5) (p := 76) (v := ?vo_w40) (w1 := (wc.setCell ⟨go32, (504 : Int).toNat, none⟩ (.int .u8 (Int.tmod (rd l0 0) 2)))) ?hg ?ho ?hn ?hr ?_; (case ho => rfl); (case hg => rfl); (case hn => rfl); (case hr => first | (go_simp; done) | (go_simp; rfl)); intro w40 hw; have hg : wc.grownBy w40 (some go32) := (by rw [hw]; exact HP39.2); have hp_ : Kd.R (Kd.int .u8) 5 w40 w.heap.size (fun _ => True) (.slice (some ⟨go32, 0, none⟩) x3_1.length co32) y263 := (by rw [hw, Ny263.out]; exact HP39.1); clear HP39; have n0_ := Aside0.mk (hp_); have n1_ := Aside0.mk (Kd.R_over' (v := (.slice (some ⟨go32, 0, none⟩) x3_1.length co32)) (by (with_reducible repeat (first | apply Kd.R_alloc | apply Kd.R_drewN | apply Kd.R_drew)); exact HO_4.out) (Kd.R_typed HO_3.out) (by decide) hg); have n2_ := Aside0.mk ((by rw [hw]; exact below_set (HB.out) GB32.out : Below w.heap.size w w40)); clear HO_3; clear HO_4; clear HB; have HO_3 := n0_; have HO_4 := n1_; have HB := n2_; clear n0_ n1_ n2_; clear hg hw hp_; have p264 : 0 ≤ (1 : Int) := (by omega); have q264 : 1 < (l0.length : Int) := of_decide_eq_true (by first | (with_reducible assumption) | assumption); obtain ⟨ad264, e264, hx264_0⟩ := Kd.at_int HR0.out 1 p264 q264; obtain rfl : ad262 = ad264 := (by injection e264); (try simp only [show (1 : Int).toNat = 1 from rfl, Nat.reduceMul, Nat.reduceEqDiff, Go.Addr.add, ↓reduceIte] at hx264_0); have qi264 : (1 < l0.length) = True := eq_true (by omega); (try rw [show ((1 : Int)).toNat = 1 from rfl] at hx264_0); replace hx264_0 := (HB.out.cell (World.block_lt_of_cell? w _ hx264_0)).trans hx264_0; replace p264 := eq_true p264; replace q264 := eq_true q264))
              have n0_ := Aside0.mk (Kd.R_drew HO_3.out)
              have n1_ := Aside0.mk (Kd.R_drew HO_4.out)
              have n2_ := Aside0.mk (below_drew1 HB.out)
              clear HO_3
              clear HO_4
              clear HB
              have HO_3 := n0_
              have HO_4 := n1_
              have HB := n2_
              clear n0_ n1_ n2_
              have p265 : 0 ≤ (0 : Int) := (by omega)
              have q265 : 0 < (l0.length : Int) := of_decide_eq_true (by first | (with_reducible assumption) | assumption)
              obtain ⟨ad265, e265, hx265_0⟩ := Kd.at_int HR0.out 0 p265 q265
              have hw265_0 := hx265_0
              (try rw [show ((0 : Int)).toNat = 0 from rfl] at hw265_0)
              (try rw [show 0 * 1 = 0 from rfl] at hw265_0)
              (try rw [Addr.add_zero'] at hw265_0)
              obtain rfl : ad262 = ad265 := (by injection e265)
              have qi265 : (0 < l0.length) = True := eq_true (by omega)
              (try rw [show ((0 : Int)).toNat = 0 from rfl] at hx265_0)
              (try rw [Addr.add_zero'] at hx265_0)
              replace hx265_0 := (HB.out.cell (World.block_lt_of_cell? w _ hx265_0)).trans hx265_0
              replace p265 := eq_true p265
              replace q265 := eq_true q265
              have p266 : 0 ≤ (1 : Int) := (by omega)
              have q266 : 1 < (l0.length : Int) := of_decide_eq_true (by first | (with_reducible assumption) | assumption)
              obtain ⟨ad266, e266, hx266_0⟩ := Kd.at_int HR0.out 1 p266 q266
              have hw266_0 := hx266_0
              (try rw [show ((1 : Int)).toNat = 1 from rfl] at hw266_0)
              (try rw [show 1 * 1 = 1 from rfl] at hw266_0)
              (try simp only [Nat.reduceMul, Nat.reduceEqDiff, Go.Addr.add, ↓reduceIte] at hw266_0)
              obtain rfl : ad262 = ad266 := (by injection e266)
              (try simp only [show (1 : Int).toNat = 1 from rfl, Nat.reduceMul, Nat.reduceEqDiff, Go.Addr.add, ↓reduceIte] at hx266_0)
              have qi266 : (1 < l0.length) = True := eq_true (by omega)
              (try rw [show ((1 : Int)).toNat = 1 from rfl] at hx266_0)
              replace hx266_0 := (HB.out.cell (World.block_lt_of_cell? w _ hx266_0)).trans hx266_0
              replace p266 := eq_true p266
              replace q266 := eq_true q266
              have p38 : 0 ≤ ((ji35) : Int) := of_decide_eq_true (by first | (with_reducible assumption) | assumption)
              have q38 : ((ji35) : Int) < ((x3_1.length : Int) : Int) := of_decide_eq_true (by first | (with_reducible assumption) | assumption)
              obtain ⟨hx38_0, hf38_0⟩ := Kd.R_celln 0 HO_3.out ((ji35) : Int) p38 q38
              replace p38 := eq_true p38
              replace q38 := eq_true q38
              have HP42 := Kd.R_putn HO_3.out ((ji35) : Int) (rd l0 1)
              rw [← Ny267.out] at HP42
              have HQ42 := Aside0.mk HP42
              clear HP42
              refine start_ (n := 13) (S := fun w' => w'.cell? ad262 = some (.int .u8 (rd l0 0)) ∧ w'.cell? ⟨ad262.block, ad262.off + 1, none⟩ = some (.int .u8 (rd l0 1))) (ds := [12]) #[false, false, false, false, false, false, false, false, false, false, false, false, false] (by kernel_rfl) rfl rfl ⟨((HB.out.cell (World.block_lt_of_cell? w _ hw265_0)).trans hw265_0), ((HB.out.cell (World.block_lt_of_cell? w _ hw266_0)).trans hw266_0)⟩ (fun hHeld => ?_); refine with_tabW mudlarklaw09_Block.tab18 mudlarklaw09_Block.bits18 (fun HT_ HW_ => ?_)
              generalize w40.drew = w41 at HO_3 HO_4 HB HQ42 hf38_0 hx265_0 hx266_0 hx38_0 hHeld ⊢
              refine pure_ (i := 0) (N := some 81) (v := ?_) (a' := ?_) #[true, false, false, false, false, false, false, false, false, false, false, false, false] rfl rfl (any_of HT_.out (by kernel_rfl)) (fun _ _ _ h => h) (Or.inl ⟨by rfl, ?_⟩) ?_ ?_
              rotate_left
              ·intro w'
               go_simp
               with_reducible rfl
              rotate_left
              ·simp only [Act.put, List.setIfInBounds_toArray, List.set_cons_zero, List.set_cons_succ, i64_w, i32_w]
               rfl
              refine pure_ (i := 1) (N := some 82) (v := ?_) (a' := ?_) #[true, true, false, false, false, false, false, false, false, false, false, false, false] rfl rfl (any_of HT_.out (by kernel_rfl)) (fun _ _ _ h => h) (Or.inl ⟨by rfl, ?_⟩) ?_ ?_
              rotate_left
              ·intro w'
               go_simp
               with_reducible rfl
              rotate_left
              ·simp only [Act.put, List.setIfInBounds_toArray, List.set_cons_zero, List.set_cons_succ, i64_w, i32_w]
               rfl
              refine pure_ (i := 2) (N := some 83) (v := ?_) (a' := ?_) #[true, true, true, false, false, false, false, false, false, false, false, false, false] rfl rfl (any_of HT_.out (by kernel_rfl)) (fun _ _ _ h => h) (Or.inl ⟨by rfl, ?_⟩) ?_ ?_
              rotate_left
              ·intro w'
               go_simp
               with_reducible rfl
              rotate_left
              ·simp only [Act.put, List.setIfInBounds_toArray, List.set_cons_zero, List.set_cons_succ, i64_w, i32_w]
               rfl
              refine pure_ (i := 8) (N := some 89) (v := ?_) (a' := ?_) #[true, true, true, false, false, false, false, false, true, false, false, false, false] rfl rfl (any_of HT_.out (by kernel_rfl)) (fun _ _ _ h => h) (Or.inl ⟨by rfl, ?_⟩) ?_ ?_
              rotate_left
              ·intro w'
               go_simp
               with_reducible rfl
              rotate_left
              ·simp only [Act.put, List.setIfInBounds_toArray, List.set_cons_zero, List.set_cons_succ, i64_w, i32_w]
               rfl
              refine pure_ (i := 9) (N := some 90) (v := ?_) (a' := ?_) #[true, true, true, false, false, false, false, false, true, true, false, false, false] rfl rfl (any_of HT_.out (by kernel_rfl)) (fun _ _ _ h => h) (Or.inl ⟨by rfl, ?_⟩) ?_ ?_
              rotate_left
              ·intro w'
               go_simp
               with_reducible rfl
              rotate_left
              ·simp only [Act.put, List.setIfInBounds_toArray, List.set_cons_zero, List.set_cons_succ, i64_w, i32_w]
               rfl
              refine take_ (i := 3) (N := some 84) (v := ?_) (a' := ?_) #[true, true, true, true, false, false, false, false, true, true, false, false, false] rfl rfl (take_ofW HT_.out HW_.out (by kernel_rfl)) (fun _ _ _ h => h) (Or.inl ⟨by rfl, ?_⟩) hHeld ?_ ?_
              rotate_left
              ·rintro w' ⟨s0, s1⟩
               go_simp
               with_reducible rfl
              rotate_left
              ·simp only [Act.put, List.setIfInBounds_toArray, List.set_cons_zero, List.set_cons_succ, i64_w, i32_w]
               rfl
              refine pure_ (i := 4) (N := some 85) (v := ?_) (a' := ?_) #[true, true, true, true, true, false, false, false, true, true, false, false, false] rfl rfl (any_of HT_.out (by kernel_rfl)) (fun _ _ _ h => h) (Or.inl ⟨by rfl, ?_⟩) ?_ ?_
              rotate_left
              ·intro w'
               go_simp
               with_reducible rfl
              rotate_left
              ·simp only [Act.put, List.setIfInBounds_toArray, List.set_cons_zero, List.set_cons_succ, i64_w, i32_w]
               rfl
              refine pure_ (i := 5) (N := some 86) (v := ?_) (a' := ?_) #[true, true, true, true, true, true, false, false, true, true, false, false, false] rfl rfl (any_of HT_.out (by kernel_rfl)) (fun _ _ _ h => h) (Or.inl ⟨by rfl, ?_⟩) ?_ ?_
              rotate_left
              ·intro w'
               go_simp
               with_reducible rfl
              rotate_left
              ·simp only [Act.put, List.setIfInBounds_toArray, List.set_cons_zero, List.set_cons_succ, i64_w, i32_w]
               rfl
              refine pure_ (i := 6) (N := some 87) (v := ?_) (a' := ?_) #[true, true, true, true, true, true, true, false, true, true, false, false, false] rfl rfl (any_of HT_.out (by kernel_rfl)) (fun _ _ _ h => h) (Or.inl ⟨by rfl, ?_⟩) ?_ ?_
              rotate_left
              ·intro w'
               go_simp
               with_reducible rfl
              rotate_left
              ·simp only [Act.put, List.setIfInBounds_toArray, List.set_cons_zero, List.set_cons_succ, i64_w, i32_w]
               rfl
              refine pure_ (i := 7) (N := some 88) (v := ?_) (a' := ?_) #[true, true, true, true, true, true, true, true, true, true, false, false, false] rfl rfl (any_of HT_.out (by kernel_rfl)) (fun _ _ _ h => h) (Or.inl ⟨by rfl, ?_⟩) ?_ ?_
              rotate_left
              ·intro w'
               go_simp
               with_reducible rfl
              rotate_left
              ·simp only [Act.put, List.setIfInBounds_toArray, List.set_cons_zero, List.set_cons_succ, i64_w, i32_w]
               rfl
              refine take_ (i := 10) (N := some 91) (v := ?_) (a' := ?_) #[true, true, true, true, true, true, true, true, true, true, true, false, false] rfl rfl (take_ofW HT_.out HW_.out (by kernel_rfl)) (fun _ _ _ h => h) (Or.inl ⟨by rfl, ?_⟩) hHeld ?_ ?_
              rotate_left
              ·rintro w' ⟨s0, s1⟩
               go_simp
               with_reducible rfl
              rotate_left
              ·simp only [Act.put, List.setIfInBounds_toArray, List.set_cons_zero, List.set_cons_succ, i64_w, i32_w]
               rfl
              refine pure_ (i := 11) (N := some 92) (v := ?_) (a' := ?_) #[true, true, true, true, true, true, true, true, true, true, true, true, false] rfl rfl (any_of HT_.out (by kernel_rfl)) (fun _ _ _ h => h) (Or.inl ⟨by rfl, ?_⟩) ?_ ?_
              rotate_left
              ·intro w'
               go_simp
               with_reducible rfl
              rotate_left
              ·simp only [Act.put, List.setIfInBounds_toArray, List.set_cons_zero, List.set_cons_succ, i64_w, i32_w]
               rfl
              refine last_ (i := 12) (N := none) #[true, true, true, true, true, true, true, true, true, true, true, true, true] rfl rfl (one_of HT_.out (by kernel_rfl)) (by decide) (fun K hK => ?_)
              refine skip_ (w1 := ?_) (by rfl) rfl ?_ ?_
              rotate_left
              ·go_simp
               rfl
              refine hK.out _ _ ?_
              clear hK K
              refine done_ (done_of HT_.out (by kernel_rfl)) ?_
              try go_wp2
              go_ret
              exact ⟨_, by first | rfl | (simp [errW_none, errW_some] <;> rfl) | (simp only [← hji35]; first | rfl | (simp [errW_none, errW_some] <;> rfl)) | (simp [*, errW_none, errW_some] <;> rfl), by (with_reducible repeat (first | apply Kd.R_alloc | apply Kd.R_drewN | apply Kd.R_drew)); exact HQ42.out, by repeat (first | (with_reducible first | exact HB.out | apply below_alloc | apply pw_below_drewN | apply below_drew1 | refine below_set ?_ GB32.out) | exact HB.out)⟩
             ·rw [if_neg c37] at H
              exact absurd H (by simp)
            ·rw [if_neg c36] at H
             exact absurd H (by simp)
           ·rw [if_neg c34] at H
            have c34b0 : decide (240 < (rd l0 1)) = false := decide_eq_false c34
            clear c34
            obtain rfl := Option.some.inj H
            have p262 : 0 ≤ (0 : Int) := (by omega)
            have q262 : 0 < (l0.length : Int) := of_decide_eq_true (by first | (with_reducible assumption) | assumption)
            obtain ⟨ad262, e262, hx262_0⟩ := Kd.at_int HR0.out 0 p262 q262
            cases e262
            have qi262 : (0 < l0.length) = True := eq_true (by omega)
            (try rw [show ((0 : Int)).toNat = 0 from rfl] at hx262_0)
            (try rw [Addr.add_zero'] at hx262_0)
            replace hx262_0 := (HB.out.cell (World.block_lt_of_cell? w _ hx262_0)).trans hx262_0
            replace p262 := eq_true p262
            replace q262 := eq_true q262
            have p32 : 0 ≤ (504 : Int) := (by omega)
            have q32 : (504 : Int) < ((x3_1.length : Int) : Int) := of_decide_eq_true (by first | (with_reducible assumption) | assumption)
            have qi32 : (504 < x3_1.length) = True := eq_true (by omega)
            obtain ⟨go32, co32, eo32, gb32, gl32, cl32, HG32⟩ := Kd.R_form HO_3.out (by omega)
            (first | cases eo32 | (injection eo32 with ea_ en_ ec_; (first | subst ea_ | (injection ea_ with ea_; subst ea_)); subst ec_; clear en_))
            have GB32 := Aside0.mk gb32
            have GG32 := Aside0.mk HG32
            clear gb32 gl32 HG32
            obtain ⟨hx32_0, hf32_0⟩ := Kd.R_celln 0 HO_3.out (504 : Int) p32 q32
            (try rw [show ((504 : Int)).toNat = 504 from rfl] at hx32_0)
            (try simp only [Nat.reduceMul, Nat.zero_mul, Nat.zero_add, Nat.reduceAdd] at hx32_0)
            (try rw [show ((504 : Int)).toNat = 504 from rfl] at hf32_0)
            (try simp only [Nat.reduceMul, Nat.zero_mul, Nat.zero_add, Nat.reduceAdd] at hf32_0)
            replace p32 := eq_true p32
            replace q32 := eq_true q32
            have HP43 := Kd.R_putg HO_3.out (504 : Int) (Int.tmod (rd l0 0) 2)
            go_wp2_with (first | ((with_reducible refine gate_store (t := 5) (p := 76) rfl ?_); refine store_event (t := 5) (p := 76) (v := ?vo_w44) (w1 := (wc.setCell ⟨go32, (504 : Int).toNat, none⟩ (.int .u8 (Int.tmod (rd l0 0) 2)))) ?hg ?ho ?hn ?hr ?_; (case ho => rfl); (case hg => rfl); (case hn => rfl); (case hr => first | (go_simp; done) | (go_simp; rfl)); intro w44 hw; have hg : wc.grownBy w44 (some go32) := (by rw [hw]; exact HP43.2); have hp_ : Kd.R (Kd.int .u8) 5 w44 w.heap.size (fun _ => True) (.slice (some ⟨go32, 0, none⟩) x3_1.length co32) y263 := (by rw [hw, Ny263.out]; exact HP43.1); clear HP43; have n0_ := Aside0.mk (hp_); have n1_ := Aside0.mk (Kd.R_over' (v := (.slice (some ⟨go32, 0, none⟩) x3_1.length co32)) (by (with_reducible repeat (first | apply Kd.R_alloc | apply Kd.R_drewN | apply Kd.R_drew)); exact HO_4.out) (Kd.R_typed HO_3.out) (by decide) hg); have n2_ := Aside0.mk ((by rw [hw]; exact below_set (HB.out) GB32.out : Below w.heap.size w w44)); clear HO_3; clear HO_4; clear HB; have HO_3 := n0_; have HO_4 := n1_; have HB := n2_; clear n0_ n1_ n2_; clear hg hw hp_; have p264 : 0 ≤ (1 : Int) := (by omega); have q264 : 1 < (l0.length : Int) := of_decide_eq_true (by first | (with_reducible assumption) | assumption); obtain ⟨ad264, e264, hx264_0⟩ := Kd.at_int HR0.out 1 p264 q264; obtain rfl : ad262 = ad264 := (by injection e264); (try simp only [show (1 : Int).toNat = 1 from rfl, Nat.reduceMul, Nat.reduceEqDiff, Go.Addr.add, ↓reduceIte] at hx264_0); have qi264 : (1 < l0.length) = True := eq_true (by omega); (try rw [show ((1 : Int)).toNat = 1 from rfl] at hx264_0); replace hx264_0 := (HB.out.cell (World.block_lt_of_cell? w _ hx264_0)).trans hx264_0; replace p264 := eq_true p264; replace q264 := eq_true q264))
            go_ret
            exact ⟨_, by first | rfl | (simp [errW_none, errW_some] <;> rfl) | (simp [*, errW_none, errW_some] <;> rfl), by (with_reducible repeat (first | apply Kd.R_alloc | apply Kd.R_drewN | apply Kd.R_drew)); exact HO_3.out, by repeat (first | (with_reducible first | exact HB.out | apply below_alloc | apply pw_below_drewN | apply below_drew1) | exact HB.out)⟩
          ·rw [if_neg c33] at H
           exact absurd H (by simp)
         ·rw [if_neg c31] at H
          exact absurd H (by simp)
        ·rw [if_neg c30] at H
         exact absurd H (by simp)
       ·rw [if_neg c29] at H
        have c29b0 : decide (1 < (l0.length : Int)) = false := decide_eq_false c29
        have c29b1 : decide (1 < l0.length) = false := decide_eq_false (by omega)
        clear c29
        obtain rfl := Option.some.inj H
        go_wp2
        go_ret
        exact ⟨_, by first | rfl | (simp [errW_none, errW_some] <;> rfl) | (simp [*, errW_none, errW_some] <;> rfl), by (with_reducible repeat (first | apply Kd.R_alloc | apply Kd.R_drewN | apply Kd.R_drew)); exact HO_3.out, by repeat (first | (with_reducible first | exact HB.out | apply below_alloc | apply pw_below_drewN | apply below_drew1) | exact HB.out)⟩
 ·rw [if_neg c2] at H
  exact absurd H (by simp)

end Go.Proofs.YtlnbkmlidmgbaaaDoor.P
