/- Lean functions with the answers of the Go functions of this seat, and for each the proof that the Go code comes to them (made by the session's program over the kit's print). No conditions. -/
import Derived.Test.YtlnbkmlidmgbaaaDoorPx0
import Derived.Test.YtlnbkmlidmgbaaaDoorHOct
namespace Go.Proofs.YtlnbkmlidmgbaaaDoor.P
open Go.RowKit Go.Proofs.YtlnbkmlidmgbaaaDoorW.PrintWords Go.Proofs.YtlnbkmlidmgbaaaDoorW.PrintLast Go.Proofs.YtlnbkmlidmgbaaaDoorW.PrintMore
attribute [local go_sem] max2_int min2_int max_two min_two max_three min_three max_four min_four   -- for this text's walks alone
set_option linter.unusedVariables false
set_option linter.unusedSimpArgs false

/-! ### num_Binary: function 76 -/
mutual
def num_Binary.j0 : Nat → List Int → Bool → Option (Int × Bool)
 | 0, _, _ => none
 | k + 1, x0, x16 => if x16 = true then (some (0, false)) else (if 0 < (x0.length : Int) then (if 1 ≤ (x0.length : Int) then (num_Binary.l0 k (wrap64 ((wrap64 (Go.bits .andNot .u8 (rd x0 0) 192)) - (wrap64 (Go.bits .and .u8 (rd x0 0) 64)))) (x0.drop 1) ((x0.drop 1).length : Int) 0) else (none)) else (none))
def num_Binary.l0 : Nat → Int → List Int → Int → Int → Option (Int × Bool)
 | 0, _, _, _, _ => none
 | k + 1, x4, x29, x30, x31 => if x31 < x30 then (if 0 ≤ x31 then (if x31 < (x29.length : Int) then (if x4 > 18014398509481984 then (some (0, false)) else (if x4 < (-18014398509481985) then (some (0, false)) else (num_Binary.l0 k (Go.bits .or .i64 (wrap64 (x4 * 256)) (wrap64 (rd x29 x31))) x29 x30 (wrap64 (x31 + 1))))) else (none)) else (none)) else (if x4 > 4611686018427387904 then (some (0, false)) else (if x4 < (-4611686018427387904) then (some (0, false)) else (some (x4, true))))
end
def num_Binary.f (k : Nat) (l0 : List Int) : Option (Int × Bool) := if (l0.length : Int) = 0 then (num_Binary.j0 k l0 true) else (if 0 < (l0.length : Int) then (num_Binary.j0 k l0 (decide ((rd l0 0) < 128))) else (none))
theorem num_Binary.mono_l : ∀ k, (∀ y0 y1, LeO (num_Binary.j0 k y0 y1) (num_Binary.j0 (k + 1) y0 y1)) ∧ (∀ y0 y1 y2 y3, LeO (num_Binary.l0 k y0 y1 y2 y3) (num_Binary.l0 (k + 1) y0 y1 y2 y3))
 | 0 => ⟨fun _ _ r h => by simp [num_Binary.j0] at h, fun _ _ _ _ r h => by simp [num_Binary.l0] at h⟩
 | k + 1 => by
  obtain ⟨ih0, ih1⟩ := num_Binary.mono_l k
  refine ⟨?_, ?_⟩
  ·intro y0 y1
   unfold num_Binary.j0
   repeat' first
   | (with_reducible exact ih0 _ _)
   | (with_reducible exact ih1 _ _ _ _)
   | (with_reducible exact LeO.refl _)
   | (with_reducible exact LeO.none _)
   | (with_reducible refine LeO.ite ?_ ?_)
   | (with_reducible refine LeO.bind ?_ (fun _ => ?_))
   | exact ih0 _ _
   | exact ih1 _ _ _ _
   | exact LeO.none _
   | refine LeO.ite ?_ ?_
   | refine LeO.bind ?_ (fun _ => ?_)
  ·intro y0 y1 y2 y3
   unfold num_Binary.l0
   repeat' first
   | (with_reducible exact ih0 _ _)
   | (with_reducible exact ih1 _ _ _ _)
   | (with_reducible exact LeO.refl _)
   | (with_reducible exact LeO.none _)
   | (with_reducible refine LeO.ite ?_ ?_)
   | (with_reducible refine LeO.bind ?_ (fun _ => ?_))
   | exact ih0 _ _
   | exact ih1 _ _ _ _
   | exact LeO.none _
   | refine LeO.ite ?_ ?_
   | refine LeO.bind ?_ (fun _ => ?_)
theorem num_Binary.mono : ∀ a0 k, LeO (num_Binary.f k a0) (num_Binary.f (k + 1) a0) := by
 intro a0 k
 obtain ⟨ih0, ih1⟩ := num_Binary.mono_l k
 unfold num_Binary.f
 repeat' first
   | (with_reducible exact ih0 _ _)
   | (with_reducible exact ih1 _ _ _ _)
   | (with_reducible exact LeO.refl _)
   | (with_reducible exact LeO.none _)
   | (with_reducible refine LeO.ite ?_ ?_)
   | (with_reducible refine LeO.bind ?_ (fun _ => ?_))
   | exact ih0 _ _
   | exact ih1 _ _ _ _
   | exact LeO.none _
   | refine LeO.ite ?_ ?_
   | refine LeO.bind ?_ (fun _ => ?_)
set_option maxHeartbeats 8000000 in
set_option maxRecDepth 100000 in
theorem num_Binary.calls (k : Nat) (A0 : Option Addr) (c0 : Nat) (l0 : List Int) (r1 : Int) (r2 : Bool) (w : World) (hr0 : Kd.C (Kd.int .u8) w A0 l0.length l0) (hc0 : l0.length ≤ c0) (h : num_Binary.f k l0 = some (r1, r2)) :
  Calls Tryd.prog 76 #[.slice A0 l0.length c0] w fun e w' => e = .returned (.tuple #[.int .i64 r1, .bool r2]) ∧ Drawn0 w w' := by
 have HR0 := Aside0.mk hr0
 have HC0 := Aside0.mk hc0
 clear hr0 hc0
 have H : (if (l0.length : Int) = 0 then (num_Binary.j0 k l0 true) else (if 0 < (l0.length : Int) then (num_Binary.j0 k l0 (decide ((rd l0 0) < 128))) else (none))) = some (r1, r2) := h
 clear h
 have HC2 := Aside0.mk H
 clear H
 go_enter Tryd.func76, Tryd.ntmps76
 go_upto_region 1 with (fail)
 repeat (go_quiet (fail); go_upto_region 1 with (fail))
 go_cut [16] (fun v16 wc => ∃ (kq : Nat) (x16_1 : Bool), v16 = .bool x16_1 ∧ Aside0 (num_Binary.j0 kq l0 x16_1 = some (r1, r2)) ∧ Aside0 (kq ≤ k) ∧ Drawn0 w wc)
 case first =>
  have H := HC2.out
  clear HC2
  by_cases c3 : (l0.length : Int) = 0
  ·rw [if_pos c3] at H
   have c3b0 : ((l0.length : Int) == 0) = true := beq_iff_eq.mpr c3
   have c3b1 : ((l0.length : Int) != 0) = false := bne_eq_false_iff_eq.mpr c3
   clear c3
   (first | rw [c3b0] | (simp only [i64_w, i32_w]; rw [c3b0]) | skip)
   have H' := Aside0.mk H
   clear H
   go_wp2
   repeat (go_quiet (fail); try go_wp2)
   go_meet
   case rel => exact ⟨_, (true), (by first | rfl | (simp; done) | (simp [*]; done)), H', ⟨by first | omega | exact Nat.le_refl _⟩, by repeat (first | exact Drawn0.refl _ | apply Drawn0.step)⟩
  ·rw [if_neg c3] at H
   have c3b0 : ((l0.length : Int) == 0) = false := beq_eq_false_iff_ne.mpr c3
   have c3b1 : ((l0.length : Int) != 0) = true := bne_iff_ne.mpr c3
   have c3b2 : ¬ (l0 = []) := fun h_ => c3 (by rw [h_]; rfl)
   (first | rw [c3b0] | (simp only [i64_w, i32_w]; rw [c3b0]) | skip)
   by_cases c4 : 0 < (l0.length : Int)
   ·rw [if_pos c4] at H
    have c4b0 : decide (0 < (l0.length : Int)) = true := decide_eq_true c4
    have c4b1 : decide (0 < l0.length) = true := decide_eq_true (by omega)
    clear c4
    have H' := Aside0.mk H
    clear H
    have p156 : 0 ≤ (0 : Int) := (by omega)
    have q156 : 0 < (l0.length : Int) := of_decide_eq_true (by first | (with_reducible assumption) | assumption)
    obtain ⟨ad156, e156, hx156_0⟩ := Kd.at_int HR0.out 0 p156 q156
    cases e156
    have qi156 : (0 < l0.length) = True := eq_true (by omega)
    (try rw [show ((0 : Int)).toNat = 0 from rfl] at hx156_0)
    (try rw [Addr.add_zero'] at hx156_0)
    replace p156 := eq_true p156
    replace q156 := eq_true q156
    go_wp2
    repeat (go_quiet (fail); try go_wp2)
    go_meet
    case rel => exact ⟨_, (decide ((rd l0 0) < 128)), (by first | rfl | (simp; done) | (simp [*]; done)), H', ⟨by first | omega | exact Nat.le_refl _⟩, by repeat (first | exact Drawn0.refl _ | apply Drawn0.step)⟩
   ·rw [if_neg c4] at H
    exact absurd H (by simp)
 case rest =>
  clear HC2
  try clear p1
  try clear q1
  try clear hx1
  try clear qi1
  try clear p2
  try clear c3
  try clear c3b0
  try clear c3b1
  try clear c3b2
  try clear c4
  try clear c4b0
  try clear c4b1
  try clear hx156_0
  try clear p156
  try clear q156
  obtain ⟨kq, x16_1, rfl, HA, HJ1, ⟨mc1, rfl⟩⟩ := hcut
  cases kq with
  | zero => exact absurd HA.out (by simp [num_Binary.j0])
  | succ kj1 =>
   have H := HA.out
   clear HA
   simp only [num_Binary.j0] at H
   by_cases c5 : x16_1 = true
   ·subst c5
    have H1 : (some (0, false)) = some (r1, r2) := by rw [if_pos rfl] at H; exact H
    clear H
    have H := H1
    clear H1
    simp only [Option.some.injEq, Prod.mk.injEq] at H
    obtain ⟨rfl, rfl⟩ := H
    go_wp2
    repeat (go_quiet (fail); try go_wp2)
    go_ret2
    exact ⟨by first | rfl | (simp; done) | (simp [*]; done), by repeat (first | exact Drawn0.refl _ | apply Drawn0.step)⟩
   ·replace c5 := Bool.eq_false_iff.mpr c5
    subst c5
    have H1 : (if 0 < (l0.length : Int) then (if 1 ≤ (l0.length : Int) then (num_Binary.l0 kj1 (wrap64 ((wrap64 (Go.bits .andNot .u8 (rd l0 0) 192)) - (wrap64 (Go.bits .and .u8 (rd l0 0) 64)))) (l0.drop 1) ((l0.drop 1).length : Int) 0) else (none)) else (none)) = some (r1, r2) := by rw [if_neg (show ¬ (false = true) by decide)] at H; exact H
    clear H
    have H := H1
    clear H1
    by_cases c6 : 0 < (l0.length : Int)
    ·rw [if_pos c6] at H
     have c6b0 : decide (0 < (l0.length : Int)) = true := decide_eq_true c6
     have c6b1 : decide (0 < l0.length) = true := decide_eq_true (by omega)
     clear c6
     by_cases c7 : 1 ≤ (l0.length : Int)
     ·rw [if_pos c7] at H
      have c7b0 := eq_true c7
      have c7b1 : decide (1 ≤ (l0.length : Int)) = true := decide_eq_true c7
      clear c7
      have H' := Aside0.mk H
      clear H
      have p157 : 0 ≤ (0 : Int) := (by omega)
      have q157 : 0 < (l0.length : Int) := of_decide_eq_true (by first | (with_reducible assumption) | assumption)
      obtain ⟨ad157, e157, hx157_0⟩ := Kd.at_int HR0.out 0 p157 q157
      cases e157
      have qi157 : (0 < l0.length) = True := eq_true (by omega)
      (try rw [show ((0 : Int)).toNat = 0 from rfl] at hx157_0)
      (try rw [Addr.add_zero'] at hx157_0)
      replace p157 := eq_true p157
      replace q157 := eq_true q157
      have p158 : 0 ≤ (0 : Int) := (by omega)
      have q158 : 0 < (l0.length : Int) := of_decide_eq_true (by first | (with_reducible assumption) | assumption)
      obtain ⟨ad158, e158, hx158_0⟩ := Kd.at_int HR0.out 0 p158 q158
      obtain rfl : ad157 = ad158 := (by injection e158)
      have qi158 : (0 < l0.length) = True := eq_true (by omega)
      (try rw [show ((0 : Int)).toNat = 0 from rfl] at hx158_0)
      (try rw [Addr.add_zero'] at hx158_0)
      replace p158 := eq_true p158
      replace q158 := eq_true q158
      obtain ⟨i08, hi08, _, hsz8, _⟩ := info_parts info5
      obtain ⟨A8, hcut8, hA8, hC8⟩ := print_drop_of (P := Tryd.prog) (Value.int .u8) 0 22 5 .i64 Tryd.underlying22 hi08 hsz8 (some ad157) c0 l0 1 (by omega) (of_decide_eq_true (by first | (with_reducible assumption) | assumption)) HC0.out
      have HR159 := Aside0.mk (Kd.C_of_reads (h1 := fun _ => rfl) (hA8 _ (Kd.reads_of_C HR0.out)))
      have HC159 := Aside0.mk hC8
      clear hA8 hC8 hi08 hsz8
      go_wp2
      repeat (go_quiet (fail); try go_wp2)
      go_loopg [4, 31] kj1 (fun kq v4 v31 w' => ∃ (x4_2 : Int) (x31_2 : Int), v4 = .int .i64 x4_2 ∧ v31 = .int .i64 x31_2 ∧ Aside0 (num_Binary.l0 kq x4_2 (l0.drop 1) ((l0.drop 1).length : Int) x31_2 = some (r1, r2)) ∧ Aside0 (kq ≤ kj1) ∧ Drawn0 w w')
      case atStart => exact ⟨(wrap64 ((wrap64 (Go.bits .andNot .u8 (rd l0 0) 192)) - (wrap64 (Go.bits .and .u8 (rd l0 0) 64)))), (0), (by first | rfl | (simp; done) | (simp [*]; done)), (by first | rfl | (simp; done) | (simp [*]; done)), H', ⟨Nat.le_refl _⟩, by repeat (first | exact Drawn0.refl _ | apply Drawn0.step)⟩
      case round =>
       clear H'
       try clear c1
       try clear p1
       try clear q1
       try clear hx1
       try clear qi1
       try clear p2
       try clear c3
       try clear c3b0
       try clear c3b1
       try clear c3b2
       try clear c4
       try clear c4b0
       try clear c4b1
       try clear c5
       try clear c6
       try clear c6b0
       try clear c6b1
       try clear p6
       try clear c7
       try clear c7b0
       try clear c7b1
       try clear hx156_0
       try clear hx157_0
       try clear hx158_0
       try clear p1
       try clear p156
       try clear p157
       try clear p158
       try clear p2
       try clear q1
       try clear q156
       try clear q157
       try clear q158
       obtain ⟨x4_2, x31_2, rfl, rfl, HA, HK2, ⟨m2, rfl⟩⟩ := hrel
       cases gk with
       | zero => exact absurd HA.out (by simp [num_Binary.l0])
       | succ k2 =>
        have H := HA.out
        clear HA
        simp only [num_Binary.l0] at H
        by_cases c9 : x31_2 < ((l0.drop 1).length : Int)
        ·rw [if_pos c9] at H
         have c9b0 : decide (x31_2 < ((l0.drop 1).length : Int)) = true := decide_eq_true c9
         have c9b0d := c9b0
         (try rw [List.length_drop] at c9b0d)
         clear c9
         by_cases c10 : 0 ≤ x31_2
         ·rw [if_pos c10] at H
          have c10b0 : decide (0 ≤ x31_2) = true := decide_eq_true c10
          clear c10
          by_cases c11 : x31_2 < ((l0.drop 1).length : Int)
          ·rw [if_pos c11] at H
           have c11b0 : decide (x31_2 < ((l0.drop 1).length : Int)) = true := decide_eq_true c11
           have c11b0d := c11b0
           (try rw [List.length_drop] at c11b0d)
           clear c11
           by_cases c12 : x4_2 > 18014398509481984
           ·rw [if_pos c12] at H
            have c12b0 : decide (18014398509481984 < x4_2) = true := decide_eq_true c12
            clear c12
            simp only [Option.some.injEq, Prod.mk.injEq] at H
            obtain ⟨rfl, rfl⟩ := H
            have p160 : 0 ≤ (x31_2 : Int) := of_decide_eq_true (by first | (with_reducible assumption) | assumption)
            have q160 : x31_2 < ((l0.drop 1).length : Int) := of_decide_eq_true (by first | (with_reducible assumption) | assumption)
            have q160d := q160
            (try rw [List.length_drop] at q160d)
            replace q160d := eq_true q160d
            obtain ⟨ad160, e160, hx160_0⟩ := Kd.at_int HR159.out x31_2 p160 q160
            cases e160
            replace p160 := eq_true p160
            replace q160 := eq_true q160
            go_wp2
            repeat (go_quiet (fail); try go_wp2)
            go_ret2
            exact ⟨by first | rfl | (simp; done) | (simp [*]; done), by repeat (first | exact Drawn0.refl _ | apply Drawn0.step)⟩
           ·rw [if_neg c12] at H
            have c12b0 : decide (18014398509481984 < x4_2) = false := decide_eq_false c12
            clear c12
            by_cases c13 : x4_2 < (-18014398509481985)
            ·rw [if_pos c13] at H
             have c13b0 : decide (x4_2 < (-18014398509481985)) = true := decide_eq_true c13
             clear c13
             simp only [Option.some.injEq, Prod.mk.injEq] at H
             obtain ⟨rfl, rfl⟩ := H
             have p160 : 0 ≤ (x31_2 : Int) := of_decide_eq_true (by first | (with_reducible assumption) | assumption)
             have q160 : x31_2 < ((l0.drop 1).length : Int) := of_decide_eq_true (by first | (with_reducible assumption) | assumption)
             have q160d := q160
             (try rw [List.length_drop] at q160d)
             replace q160d := eq_true q160d
             obtain ⟨ad160, e160, hx160_0⟩ := Kd.at_int HR159.out x31_2 p160 q160
             cases e160
             replace p160 := eq_true p160
             replace q160 := eq_true q160
             go_wp2
             repeat (go_quiet (fail); try go_wp2)
             go_ret2
             exact ⟨by first | rfl | (simp; done) | (simp [*]; done), by repeat (first | exact Drawn0.refl _ | apply Drawn0.step)⟩
            ·rw [if_neg c13] at H
             have c13b0 : decide (x4_2 < (-18014398509481985)) = false := decide_eq_false c13
             clear c13
             have H' := Aside0.mk H
             clear H
             have p160 : 0 ≤ (x31_2 : Int) := of_decide_eq_true (by first | (with_reducible assumption) | assumption)
             have q160 : x31_2 < ((l0.drop 1).length : Int) := of_decide_eq_true (by first | (with_reducible assumption) | assumption)
             have q160d := q160
             (try rw [List.length_drop] at q160d)
             replace q160d := eq_true q160d
             obtain ⟨ad160, e160, hx160_0⟩ := Kd.at_int HR159.out x31_2 p160 q160
             cases e160
             replace p160 := eq_true p160
             replace q160 := eq_true q160
             go_wp2
             repeat (go_quiet (fail); try go_wp2)
             go_roundg k2
             case measure => have := HJ1.out; have := HK2.out; omega
             case rel => exact ⟨(Go.bits .or .i64 (wrap64 (x4_2 * 256)) (wrap64 (rd (l0.drop 1) x31_2))), (wrap64 (x31_2 + 1)), (by first | rfl | (simp; done) | (simp [*]; done)), (by first | rfl | (simp; done) | (simp [*]; done)), H', ⟨by have := HJ1.out; have := HK2.out; omega⟩, by repeat (first | exact Drawn0.refl _ | apply Drawn0.step)⟩
          ·rw [if_neg c11] at H
           exact absurd H (by simp)
         ·rw [if_neg c10] at H
          exact absurd H (by simp)
        ·rw [if_neg c9] at H
         have c9b0 : decide (x31_2 < ((l0.drop 1).length : Int)) = false := decide_eq_false c9
         have c9b0d := c9b0
         (try rw [List.length_drop] at c9b0d)
         clear c9
         by_cases c14 : x4_2 > 4611686018427387904
         ·rw [if_pos c14] at H
          have c14b0 : decide (4611686018427387904 < x4_2) = true := decide_eq_true c14
          clear c14
          simp only [Option.some.injEq, Prod.mk.injEq] at H
          obtain ⟨rfl, rfl⟩ := H
          go_wp2
          repeat (go_quiet (fail); try go_wp2)
          go_ret2
          exact ⟨by first | rfl | (simp; done) | (simp [*]; done), by repeat (first | exact Drawn0.refl _ | apply Drawn0.step)⟩
         ·rw [if_neg c14] at H
          have c14b0 : decide (4611686018427387904 < x4_2) = false := decide_eq_false c14
          clear c14
          by_cases c15 : x4_2 < (-4611686018427387904)
          ·rw [if_pos c15] at H
           have c15b0 : decide (x4_2 < (-4611686018427387904)) = true := decide_eq_true c15
           clear c15
           simp only [Option.some.injEq, Prod.mk.injEq] at H
           obtain ⟨rfl, rfl⟩ := H
           go_wp2
           repeat (go_quiet (fail); try go_wp2)
           go_ret2
           exact ⟨by first | rfl | (simp; done) | (simp [*]; done), by repeat (first | exact Drawn0.refl _ | apply Drawn0.step)⟩
          ·rw [if_neg c15] at H
           have c15b0 : decide (x4_2 < (-4611686018427387904)) = false := decide_eq_false c15
           clear c15
           simp only [Option.some.injEq, Prod.mk.injEq] at H
           obtain ⟨rfl, rfl⟩ := H
           go_wp2
           repeat (go_quiet (fail); try go_wp2)
           go_ret2
           exact ⟨by first | rfl | (simp; done) | (simp [*]; done), by repeat (first | exact Drawn0.refl _ | apply Drawn0.step)⟩
     ·rw [if_neg c7] at H
      exact absurd H (by simp)
    ·rw [if_neg c6] at H
     exact absurd H (by simp)

/-! ### num_Parse: function 62 -/
def num_Parse.j0 : Nat → List Int → Bool → Option (Int × Bool)
 | 0, _, _ => none
 | k + 1, x0, x12 => if x12 = true then ((num_Binary.f k x0).bind fun bt162 => (some (bt162.1, bt162.2))) else ((num_Octal.f x0).bind fun bt164 => (some (bt164.1, bt164.2)))
def num_Parse.f (k : Nat) (l0 : List Int) : Option (Int × Bool) := if (l0.length : Int) > 0 then (if 0 < (l0.length : Int) then (num_Parse.j0 k l0 (decide ((rd l0 0) ≥ 128))) else (none)) else (num_Parse.j0 k l0 false)
theorem num_Parse.mono_l : ∀ k, (∀ y0 y1, LeO (num_Parse.j0 k y0 y1) (num_Parse.j0 (k + 1) y0 y1))
 | 0 => fun _ _ r h => by simp [num_Parse.j0] at h
 | k + 1 => by
  have ih0 := num_Parse.mono_l k
  ·intro y0 y1
   unfold num_Parse.j0
   repeat' first
   | (with_reducible exact ih0 _ _)
   | (with_reducible exact num_Binary.mono _ _)
   | (with_reducible exact LeO.refl _)
   | (with_reducible exact LeO.none _)
   | (with_reducible refine LeO.ite ?_ ?_)
   | (with_reducible refine LeO.bind ?_ (fun _ => ?_))
   | exact ih0 _ _
   | exact num_Binary.mono _ _
   | exact LeO.none _
   | refine LeO.ite ?_ ?_
   | refine LeO.bind ?_ (fun _ => ?_)
theorem num_Parse.mono : ∀ a0 k, LeO (num_Parse.f k a0) (num_Parse.f (k + 1) a0) := by
 intro a0 k
 have ih0 := num_Parse.mono_l k
 unfold num_Parse.f
 repeat' first
   | (with_reducible exact ih0 _ _)
   | (with_reducible exact num_Binary.mono _ _)
   | (with_reducible exact LeO.refl _)
   | (with_reducible exact LeO.none _)
   | (with_reducible refine LeO.ite ?_ ?_)
   | (with_reducible refine LeO.bind ?_ (fun _ => ?_))
   | exact ih0 _ _
   | exact num_Binary.mono _ _
   | exact LeO.none _
   | refine LeO.ite ?_ ?_
   | refine LeO.bind ?_ (fun _ => ?_)
set_option maxHeartbeats 8000000 in
set_option maxRecDepth 100000 in
theorem num_Parse.calls (k : Nat) (A0 : Option Addr) (c0 : Nat) (l0 : List Int) (r1 : Int) (r2 : Bool) (w : World) (hr0 : Kd.C (Kd.int .u8) w A0 l0.length l0) (hc0 : l0.length ≤ c0) (h : num_Parse.f k l0 = some (r1, r2)) :
  Calls Tryd.prog 62 #[.slice A0 l0.length c0] w fun e w' => e = .returned (.tuple #[.int .i64 r1, .bool r2]) ∧ Below w.heap.size w w' := by
 have HR0 := Aside0.mk hr0
 have HC0 := Aside0.mk hc0
 clear hr0 hc0
 have HB := Aside0.mk (Below.refl w.heap.size w)
 have H : (if (l0.length : Int) > 0 then (if 0 < (l0.length : Int) then (num_Parse.j0 k l0 (decide ((rd l0 0) ≥ 128))) else (none)) else (num_Parse.j0 k l0 false)) = some (r1, r2) := h
 clear h
 have HC2 := Aside0.mk H
 clear H
 go_enter Tryd.func62, Tryd.ntmps62
 go_upto_region 1 with (fail)
 go_cut [12] (fun v12 wc => ∃ (kq : Nat) (x12_1 : Bool), v12 = .bool x12_1 ∧ Aside0 (num_Parse.j0 kq l0 x12_1 = some (r1, r2)) ∧ Aside0 (kq ≤ k) ∧ Aside0 (Below w.heap.size w wc))
 case first =>
  have H := HC2.out
  clear HC2
  by_cases c3 : (l0.length : Int) > 0
  ·rw [if_pos c3] at H
   have c3b0 : decide (0 < (l0.length : Int)) = true := decide_eq_true c3
   have c3b1 : decide (0 < l0.length) = true := decide_eq_true (by omega)
   clear c3
   (first | rw [c3b0] | (simp only [i64_w, i32_w]; rw [c3b0]) | skip)
   by_cases c4 : 0 < (l0.length : Int)
   ·rw [if_pos c4] at H
    have c4b0 : decide (0 < (l0.length : Int)) = true := decide_eq_true c4
    have c4b1 : decide (0 < l0.length) = true := decide_eq_true (by omega)
    clear c4
    have H' := Aside0.mk H
    clear H
    have p161 : 0 ≤ (0 : Int) := (by omega)
    have q161 : 0 < (l0.length : Int) := of_decide_eq_true (by first | (with_reducible assumption) | assumption)
    obtain ⟨ad161, e161, hx161_0⟩ := Kd.at_int HR0.out 0 p161 q161
    cases e161
    have qi161 : (0 < l0.length) = True := eq_true (by omega)
    (try rw [show ((0 : Int)).toNat = 0 from rfl] at hx161_0)
    (try rw [Addr.add_zero'] at hx161_0)
    replace hx161_0 := (HB.out.cell (World.block_lt_of_cell? w _ hx161_0)).trans hx161_0
    replace p161 := eq_true p161
    replace q161 := eq_true q161
    go_wp2
    go_meet
    case rel => exact ⟨_, (decide ((rd l0 0) ≥ 128)), (by first | rfl | (simp; done) | (simp [*]; done)), H', ⟨by first | omega | exact Nat.le_refl _⟩, ⟨by repeat (first | (with_reducible first | exact HB.out | apply below_alloc | apply pw_below_drewN | apply below_drew1) | exact HB.out)⟩⟩
   ·rw [if_neg c4] at H
    exact absurd H (by simp)
  ·rw [if_neg c3] at H
   have c3b0 : decide (0 < (l0.length : Int)) = false := decide_eq_false c3
   have c3b1 : decide (0 < l0.length) = false := decide_eq_false (by omega)
   clear c3
   (first | rw [c3b0] | (simp only [i64_w, i32_w]; rw [c3b0]) | skip)
   have H' := Aside0.mk H
   clear H
   go_wp2
   go_meet
   case rel => exact ⟨_, (false), (by first | rfl | (simp; done) | (simp [*]; done)), H', ⟨by first | omega | exact Nat.le_refl _⟩, ⟨by repeat (first | (with_reducible first | exact HB.out | apply below_alloc | apply pw_below_drewN | apply below_drew1) | exact HB.out)⟩⟩
 case rest =>
  clear HC2
  try clear p1
  try clear q1
  try clear hx1
  try clear qi1
  try clear p2
  try clear c3
  try clear c3b0
  try clear c3b1
  try clear c4
  try clear c4b0
  try clear c4b1
  try clear hx161_0
  try clear p161
  try clear q161
  obtain ⟨kq, x12_1, rfl, HA, HJ1, HB⟩ := hcut
  cases kq with
  | zero => exact absurd HA.out (by simp [num_Parse.j0])
  | succ kj1 =>
   have H := HA.out
   clear HA
   simp only [num_Parse.j0] at H
   by_cases c5 : x12_1 = true
   ·subst c5
    have H1 : ((num_Binary.f kj1 l0).bind fun bt162 => (some (bt162.1, bt162.2))) = some (r1, r2) := by rw [if_pos rfl] at H; exact H
    clear H
    have H := H1
    clear H1
    replace H := Option.bind_eq_some_iff.mp H
    obtain ⟨⟨t162, t163⟩, A60, H⟩ := H
    replace H : (some (t162, t163)) = some (r1, r2) := H
    have A6 := Aside0.mk A60
    clear A60
    simp only [Option.some.injEq, Prod.mk.injEq] at H
    obtain ⟨rfl, rfl⟩ := H
    go_wp2_with (first | ((with_reducible refine gate_callee (f := 76) rfl ?_); refine goesL_ (some 14) rfl rfl Tryd.func76 (by kernel_rfl) rfl #[.slice A0 l0.length c0] rfl (by (try simp only [List.map_toArray, List.map_cons, List.map_nil]); first | done | rfl | (simp only [List.length_drop, List.length_take]; rfl)) ?_; (with_reducible refine (num_Binary.calls kj1 _ _ l0 t162 t163 _ ?side1 ?side2 A6.out).mono ?_); (case side1 => repeat (first | exact (Kd.C_below HR0.out HB.out) | (with_reducible refine Kd.C_alloc ?_ _) | (with_reducible refine Kd.C_drewN ?_ _) | (with_reducible refine Kd.C_drew ?_))); (case side2 => exact HC0.out); rintro e w' ⟨rfl, ⟨nd, rfl⟩⟩; refine ⟨_, rfl, ?_⟩))
    go_ret2
    exact ⟨by first | rfl | (simp [errW_none, errW_some] <;> rfl) | (simp [*, errW_none, errW_some] <;> rfl), by repeat (first | (with_reducible first | exact HB.out | apply below_alloc | apply pw_below_drewN | apply below_drew1) | exact HB.out)⟩
   ·replace c5 := Bool.eq_false_iff.mpr c5
    subst c5
    have H1 : ((num_Octal.f l0).bind fun bt164 => (some (bt164.1, bt164.2))) = some (r1, r2) := by rw [if_neg (show ¬ (false = true) by decide)] at H; exact H
    clear H
    have H := H1
    clear H1
    replace H := Option.bind_eq_some_iff.mp H
    obtain ⟨⟨t164, t165⟩, A70, H⟩ := H
    replace H : (some (t164, t165)) = some (r1, r2) := H
    have A7 := Aside0.mk A70
    clear A70
    simp only [Option.some.injEq, Prod.mk.injEq] at H
    obtain ⟨rfl, rfl⟩ := H
    go_wp2_with (first | ((with_reducible refine gate_callee (f := 77) rfl ?_); refine goesL_ (some 18) rfl rfl Tryd.func77 (by kernel_rfl) rfl #[.slice A0 l0.length c0] rfl (by (try simp only [List.map_toArray, List.map_cons, List.map_nil]); first | done | rfl | (simp only [List.length_drop, List.length_take]; rfl)) ?_; (with_reducible refine (num_Octal.calls _ _ l0 t164 t165 _ ?side1 ?side2 A7.out).mono ?_); (case side1 => repeat (first | exact (Kd.C_below HR0.out HB.out) | (with_reducible refine Kd.C_alloc ?_ _) | (with_reducible refine Kd.C_drewN ?_ _) | (with_reducible refine Kd.C_drew ?_))); (case side2 => exact HC0.out); rintro e w8 ⟨rfl, hb⟩; refine ⟨_, rfl, ?_⟩; have n0_ := Aside0.mk (below_step (by repeat (first | (with_reducible first | exact HB.out | apply below_alloc | apply pw_below_drewN | apply below_drew1) | exact HB.out)) hb); clear HB; have HB := n0_; clear n0_; (try clear hb); (try clear hb2); (try clear hk); (try clear hi)))
    go_ret2
    exact ⟨by first | rfl | (simp [errW_none, errW_some] <;> rfl) | (simp [*, errW_none, errW_some] <;> rfl), by repeat (first | (with_reducible first | exact HB.out | apply below_alloc | apply pw_below_drewN | apply below_drew1) | exact HB.out)⟩

end Go.Proofs.YtlnbkmlidmgbaaaDoor.P
