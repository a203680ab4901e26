/- The reference's sums and octal numbers, walked. Functions of the reference, walked (the kit's print). No conditions. -/
import Derived.Test.YtdeolcgabkkocaaDoorPx0
import Derived.Test.YtdeolcgabkkocaaDoorHOct
section
namespace Go.Proofs.YtdeolcgabkkocaaDoor.P
open Go.RowKit Go.Proofs.YtdeolcgabkkocaaDoorW.PrintWords Go.Proofs.YtdeolcgabkkocaaDoorW.PrintLast Go.Proofs.YtdeolcgabkkocaaDoorW.PrintMore
attribute [local go_sem] max2_int min2_int max_two min_two max_three min_three max_four min_four   -- for this text's walks alone
set_option linter.unusedVariables false
set_option linter.unusedSimpArgs false

/-! ### mudlarkref05_Unsigned: function 32 -/
def mudlarkref05_Unsigned.l0 : Nat → List Int → Int → Int → Option (Int)
 | 0, _, _, _ => none
 | k + 1, x0, x3, x4 => if x4 < (x0.length : Int) then (if x4 ≥ 148 then (if x4 < 156 then (mudlarkref05_Unsigned.l0 k x0 (wrap64 (x3 + 32)) (wrap64 (x4 + 1))) else (if 0 ≤ x4 then (mudlarkref05_Unsigned.l0 k x0 (wrap64 (x3 + (wrap64 (rd x0 x4)))) (wrap64 (x4 + 1))) else (none))) else (if 0 ≤ x4 then (mudlarkref05_Unsigned.l0 k x0 (wrap64 (x3 + (wrap64 (rd x0 x4)))) (wrap64 (x4 + 1))) else (none))) else (some x3)
def mudlarkref05_Unsigned.f (k : Nat) (l0 : List Int) : Option (Int) := mudlarkref05_Unsigned.l0 k l0 0 0
set_option maxHeartbeats 8000000 in
set_option maxRecDepth 100000 in
theorem mudlarkref05_Unsigned.calls (k : Nat) (A0 : Option Addr) (c0 : Nat) (l0 : List Int) (r : Int) (w : World) (hr0 : Kd.C (Kd.int .u8) w A0 l0.length l0) (hc0 : l0.length ≤ c0) (h : mudlarkref05_Unsigned.f k l0 = some r) :
  Calls Tryd.prog 32 #[.slice A0 l0.length c0] w fun e w' => e = .returned (.int .i64 r) ∧ Drawn0 w w' := by
 have HR0 := Aside0.mk hr0
 have HC0 := Aside0.mk hc0
 clear hr0 hc0
 have H : (mudlarkref05_Unsigned.l0 k l0 0 0) = some r := h
 clear h
 have H' := Aside0.mk H
 clear H
 go_enter Tryd.func32, Tryd.ntmps32
 go_wp2
 go_loopg [3, 4] k (fun kq v3 v4 w' => ∃ (x3_1 : Int) (x4_1 : Int), v3 = .int .i64 x3_1 ∧ v4 = .int .i64 x4_1 ∧ Aside0 (mudlarkref05_Unsigned.l0 kq l0 x3_1 x4_1 = some r) ∧ Aside0 (kq ≤ k) ∧ Drawn0 w w')
 case atStart => exact ⟨(0), (0), (by first | rfl | (simp; done) | (simp [*]; done)), (by first | rfl | (simp; done) | (simp [*]; done)), H', ⟨Nat.le_refl _⟩, by repeat (first | exact Drawn0.refl _ | apply Drawn0.step)⟩
 case round =>
  clear H'
  obtain ⟨x3_1, x4_1, rfl, rfl, HA, HK1, ⟨m1, rfl⟩⟩ := hrel
  cases gk with
  | zero => exact absurd HA.out (by simp [mudlarkref05_Unsigned.l0])
  | succ k1 =>
   have H := HA.out
   clear HA
   simp only [mudlarkref05_Unsigned.l0] at H
   by_cases c2 : x4_1 < (l0.length : Int)
   ·rw [if_pos c2] at H
    have c2b0 : decide (x4_1 < (l0.length : Int)) = true := decide_eq_true c2
    clear c2
    by_cases c3 : x4_1 ≥ 148
    ·rw [if_pos c3] at H
     have c3b0 : decide (148 ≤ x4_1) = true := decide_eq_true c3
     clear c3
     by_cases c4 : x4_1 < 156
     ·rw [if_pos c4] at H
      have c4b0 : decide (x4_1 < 156) = true := decide_eq_true c4
      clear c4
      have H' := Aside0.mk H
      clear H
      go_wp2
      go_roundg k1
      case measure => have := HK1.out; omega
      case rel => exact ⟨(wrap64 (x3_1 + 32)), (wrap64 (x4_1 + 1)), (by first | rfl | (simp; done) | (simp [*]; done)), (by first | rfl | (simp; done) | (simp [*]; done)), H', ⟨by have := HK1.out; omega⟩, by repeat (first | exact Drawn0.refl _ | apply Drawn0.step)⟩
     ·rw [if_neg c4] at H
      have c4b0 : decide (x4_1 < 156) = false := decide_eq_false c4
      clear c4
      by_cases c5 : 0 ≤ x4_1
      ·rw [if_pos c5] at H
       have c5b0 : decide (0 ≤ x4_1) = true := decide_eq_true c5
       clear c5
       have H' := Aside0.mk H
       clear H
       have p200 : 0 ≤ (x4_1 : Int) := of_decide_eq_true (by first | (with_reducible assumption) | assumption)
       have q200 : x4_1 < (l0.length : Int) := of_decide_eq_true (by first | (with_reducible assumption) | assumption)
       obtain ⟨ad200, e200, hx200_0⟩ := Kd.at_int HR0.out x4_1 p200 q200
       cases e200
       replace p200 := eq_true p200
       replace q200 := eq_true q200
       go_wp2
       go_roundg k1
       case measure => have := HK1.out; omega
       case rel => exact ⟨(wrap64 (x3_1 + (wrap64 (rd l0 x4_1)))), (wrap64 (x4_1 + 1)), (by first | rfl | (simp; done) | (simp [*]; done)), (by first | rfl | (simp; done) | (simp [*]; done)), H', ⟨by have := HK1.out; omega⟩, by repeat (first | exact Drawn0.refl _ | apply Drawn0.step)⟩
      ·rw [if_neg c5] at H
       exact absurd H (by simp)
    ·rw [if_neg c3] at H
     have c3b0 : decide (148 ≤ x4_1) = false := decide_eq_false c3
     clear c3
     by_cases c6 : 0 ≤ x4_1
     ·rw [if_pos c6] at H
      have c6b0 : decide (0 ≤ x4_1) = true := decide_eq_true c6
      clear c6
      have H' := Aside0.mk H
      clear H
      have p201 : 0 ≤ (x4_1 : Int) := of_decide_eq_true (by first | (with_reducible assumption) | assumption)
      have q201 : x4_1 < (l0.length : Int) := of_decide_eq_true (by first | (with_reducible assumption) | assumption)
      obtain ⟨ad201, e201, hx201_0⟩ := Kd.at_int HR0.out x4_1 p201 q201
      cases e201
      replace p201 := eq_true p201
      replace q201 := eq_true q201
      go_wp2
      go_roundg k1
      case measure => have := HK1.out; omega
      case rel => exact ⟨(wrap64 (x3_1 + (wrap64 (rd l0 x4_1)))), (wrap64 (x4_1 + 1)), (by first | rfl | (simp; done) | (simp [*]; done)), (by first | rfl | (simp; done) | (simp [*]; done)), H', ⟨by have := HK1.out; omega⟩, by repeat (first | exact Drawn0.refl _ | apply Drawn0.step)⟩
     ·rw [if_neg c6] at H
      exact absurd H (by simp)
   ·rw [if_neg c2] at H
    have c2b0 : decide (x4_1 < (l0.length : Int)) = false := decide_eq_false c2
    clear c2
    obtain rfl := Option.some.inj H
    go_wp2
    go_ret
    exact ⟨by first | rfl | (simp; done) | (simp [*]; done), by repeat (first | exact Drawn0.refl _ | apply Drawn0.step)⟩

/-! ### mudlarkref01_blank: function 68 -/
def mudlarkref01_blank.l0 : Nat → List Int → Bool → Int → Option (Bool)
 | 0, _, _, _ => none
 | k + 1, x0, x1, x5 => if x5 < (x0.length : Int) then (if 0 ≤ x5 then (if (rd x0 x5) = 32 then (mudlarkref01_blank.l0 k x0 x1 (wrap64 (x5 + 1))) else (if x1 = true then (if ((rd x0 x5) = 0) then (mudlarkref01_blank.l0 k x0 x1 (wrap64 (x5 + 1))) else (some false)) else (some false))) else (none)) else (some true)
def mudlarkref01_blank.f (k : Nat) (l0 : List Int) (a1 : Bool) : Option (Bool) := mudlarkref01_blank.l0 k l0 a1 0
set_option maxHeartbeats 8000000 in
set_option maxRecDepth 100000 in
theorem mudlarkref01_blank.calls (k : Nat) (A0 : Option Addr) (c0 : Nat) (l0 : List Int) (a1 : Bool) (r : Bool) (w : World) (hr0 : Kd.C (Kd.int .u8) w A0 l0.length l0) (hc0 : l0.length ≤ c0) (h : mudlarkref01_blank.f k l0 a1 = some r) :
  Calls Tryd.prog 68 #[.slice A0 l0.length c0, .bool a1] w fun e w' => e = .returned (.bool r) ∧ Drawn0 w w' := by
 have HR0 := Aside0.mk hr0
 have HC0 := Aside0.mk hc0
 clear hr0 hc0
 have H : (mudlarkref01_blank.l0 k l0 a1 0) = some r := h
 clear h
 have H' := Aside0.mk H
 clear H
 go_enter Tryd.func68, Tryd.ntmps68
 go_wp2
 go_loopg [5] k (fun kq v5 w' => ∃ (x5_1 : Int), v5 = .int .i64 x5_1 ∧ Aside0 (mudlarkref01_blank.l0 kq l0 a1 x5_1 = some r) ∧ Aside0 (kq ≤ k) ∧ Drawn0 w w')
 case atStart => exact ⟨(0), (by first | rfl | (simp; done) | (simp [*]; done)), H', ⟨Nat.le_refl _⟩, by repeat (first | exact Drawn0.refl _ | apply Drawn0.step)⟩
 case round =>
  clear H'
  try clear p2
  obtain ⟨x5_1, rfl, HA, HK1, ⟨m1, rfl⟩⟩ := hrel
  cases gk with
  | zero => exact absurd HA.out (by simp [mudlarkref01_blank.l0])
  | succ k1 =>
   have H := HA.out
   clear HA
   simp only [mudlarkref01_blank.l0] at H
   by_cases c3 : x5_1 < (l0.length : Int)
   ·rw [if_pos c3] at H
    have c3b0 : decide (x5_1 < (l0.length : Int)) = true := decide_eq_true c3
    clear c3
    by_cases c4 : 0 ≤ x5_1
    ·rw [if_pos c4] at H
     have c4b0 : decide (0 ≤ x5_1) = true := decide_eq_true c4
     clear c4
     by_cases c5 : (rd l0 x5_1) = 32
     ·rw [if_pos c5] at H
      have c5b0 : ((rd l0 x5_1) == 32) = true := beq_iff_eq.mpr c5
      have c5b1 : ((rd l0 x5_1) != 32) = false := bne_eq_false_iff_eq.mpr c5
      clear c5
      have H' := Aside0.mk H
      clear H
      have p263 : 0 ≤ (x5_1 : Int) := of_decide_eq_true (by first | (with_reducible assumption) | assumption)
      have q263 : x5_1 < (l0.length : Int) := of_decide_eq_true (by first | (with_reducible assumption) | assumption)
      obtain ⟨ad263, e263, hx263_0⟩ := Kd.at_int HR0.out x5_1 p263 q263
      cases e263
      replace p263 := eq_true p263
      replace q263 := eq_true q263
      go_wp2
      go_roundg k1
      case measure => have := HK1.out; omega
      case rel => exact ⟨(wrap64 (x5_1 + 1)), (by first | rfl | (simp; done) | (simp [*]; done)), H', ⟨by have := HK1.out; omega⟩, by repeat (first | exact Drawn0.refl _ | apply Drawn0.step)⟩
     ·rw [if_neg c5] at H
      have c5b0 : ((rd l0 x5_1) == 32) = false := beq_eq_false_iff_ne.mpr c5
      have c5b1 : ((rd l0 x5_1) != 32) = true := bne_iff_ne.mpr c5
      by_cases c6 : a1 = true
      ·subst c6
       have H1 : (if ((rd l0 x5_1) = 0) then (mudlarkref01_blank.l0 k1 l0 true (wrap64 (x5_1 + 1))) else (some false)) = some r := by rw [if_pos rfl] at H; exact H
       clear H
       have H := H1
       clear H1
       by_cases c7 : ((rd l0 x5_1) = 0)
       ·rw [if_pos c7] at H
        have c7b0 : ((rd l0 x5_1) == 0) = true := beq_iff_eq.mpr c7
        have c7b1 : ((rd l0 x5_1) != 0) = false := bne_eq_false_iff_eq.mpr c7
        clear c7
        have H' := Aside0.mk H
        clear H
        have p263 : 0 ≤ (x5_1 : Int) := of_decide_eq_true (by first | (with_reducible assumption) | assumption)
        have q263 : x5_1 < (l0.length : Int) := of_decide_eq_true (by first | (with_reducible assumption) | assumption)
        obtain ⟨ad263, e263, hx263_0⟩ := Kd.at_int HR0.out x5_1 p263 q263
        cases e263
        replace p263 := eq_true p263
        replace q263 := eq_true q263
        have p264 : 0 ≤ (x5_1 : Int) := of_decide_eq_true (by first | (with_reducible assumption) | assumption)
        have q264 : x5_1 < (l0.length : Int) := of_decide_eq_true (by first | (with_reducible assumption) | assumption)
        obtain ⟨ad264, e264, hx264_0⟩ := Kd.at_int HR0.out x5_1 p264 q264
        obtain rfl : ad263 = ad264 := (by injection e264)
        replace p264 := eq_true p264
        replace q264 := eq_true q264
        go_wp2
        go_roundg k1
        case measure => have := HK1.out; omega
        case rel => exact ⟨(wrap64 (x5_1 + 1)), (by first | rfl | (simp; done) | (simp [*]; done)), H', ⟨by have := HK1.out; omega⟩, by repeat (first | exact Drawn0.refl _ | apply Drawn0.step)⟩
       ·rw [if_neg c7] at H
        have c7b0 : ((rd l0 x5_1) == 0) = false := beq_eq_false_iff_ne.mpr c7
        have c7b1 : ((rd l0 x5_1) != 0) = true := bne_iff_ne.mpr c7
        obtain rfl := Option.some.inj H
        have p263 : 0 ≤ (x5_1 : Int) := of_decide_eq_true (by first | (with_reducible assumption) | assumption)
        have q263 : x5_1 < (l0.length : Int) := of_decide_eq_true (by first | (with_reducible assumption) | assumption)
        obtain ⟨ad263, e263, hx263_0⟩ := Kd.at_int HR0.out x5_1 p263 q263
        cases e263
        replace p263 := eq_true p263
        replace q263 := eq_true q263
        have p264 : 0 ≤ (x5_1 : Int) := of_decide_eq_true (by first | (with_reducible assumption) | assumption)
        have q264 : x5_1 < (l0.length : Int) := of_decide_eq_true (by first | (with_reducible assumption) | assumption)
        obtain ⟨ad264, e264, hx264_0⟩ := Kd.at_int HR0.out x5_1 p264 q264
        obtain rfl : ad263 = ad264 := (by injection e264)
        replace p264 := eq_true p264
        replace q264 := eq_true q264
        go_wp2
        go_ret
        exact ⟨by first | rfl | (simp; done) | (simp [*]; done), by repeat (first | exact Drawn0.refl _ | apply Drawn0.step)⟩
      ·replace c6 := Bool.eq_false_iff.mpr c6
       subst c6
       have H1 : (some false) = some r := by rw [if_neg (show ¬ (false = true) by decide)] at H; exact H
       clear H
       have H := H1
       clear H1
       obtain rfl := Option.some.inj H
       have p263 : 0 ≤ (x5_1 : Int) := of_decide_eq_true (by first | (with_reducible assumption) | assumption)
       have q263 : x5_1 < (l0.length : Int) := of_decide_eq_true (by first | (with_reducible assumption) | assumption)
       obtain ⟨ad263, e263, hx263_0⟩ := Kd.at_int HR0.out x5_1 p263 q263
       cases e263
       replace p263 := eq_true p263
       replace q263 := eq_true q263
       go_wp2
       go_ret
       exact ⟨by first | rfl | (simp; done) | (simp [*]; done), by repeat (first | exact Drawn0.refl _ | apply Drawn0.step)⟩
    ·rw [if_neg c4] at H
     exact absurd H (by simp)
   ·rw [if_neg c3] at H
    have c3b0 : decide (x5_1 < (l0.length : Int)) = false := decide_eq_false c3
    clear c3
    obtain rfl := Option.some.inj H
    go_wp2
    go_ret
    exact ⟨by first | rfl | (simp; done) | (simp [*]; done), by repeat (first | exact Drawn0.refl _ | apply Drawn0.step)⟩

/-! ### mudlarkref01_Octal: function 54 -/
mutual
def mudlarkref01_Octal.j1 : Nat → List Int → Int → Option (Int × Bool)
 | 0, _, _ => none
 | k + 1, x0, x4 => mudlarkref01_Octal.l1 k x0 x4 0
def mudlarkref01_Octal.l1 : Nat → List Int → Int → Int → Option (Int × Bool)
 | 0, _, _, _ => none
 | k + 1, x0, x4, x5 => if x4 < (x0.length : Int) then (if 0 ≤ x4 then (if (rd x0 x4) ≥ 48 then (mudlarkref01_Octal.j3 k x0 x4 x5 (decide ((rd x0 x4) ≤ 55))) else (mudlarkref01_Octal.j3 k x0 x4 x5 false)) else (none)) else (mudlarkref01_Octal.j3 k x0 x4 x5 false)
def mudlarkref01_Octal.j3 : Nat → List Int → Int → Int → Bool → Option (Int × Bool)
 | 0, _, _, _, _ => none
 | k + 1, x0, x4, x5, x36 => if x36 = true then (if x5 > 576460752303423488 then (some (0, false)) else (if 0 ≤ x4 then (if x4 < (x0.length : Int) then (mudlarkref01_Octal.l1 k x0 (wrap64 (x4 + 1)) (wrap64 ((wrap64 ((wrap64 (8 * x5)) + (wrap64 (rd x0 x4)))) - 48))) else (none)) else (none))) else (if x5 > 4611686018427387904 then (some (0, false)) else (if 0 ≤ x4 then (if x4 ≤ (x0.length : Int) then ((mudlarkref01_blank.f k (x0.drop (x4 : Int).toNat) true).bind fun t270 => (if t270 = true then (some (x5, true)) else (some (0, false)))) else (none)) else (none)))
def mudlarkref01_Octal.l0 : Nat → List Int → Int → Option (Int × Bool)
 | 0, _, _ => none
 | k + 1, x0, x4 => if x4 < (x0.length : Int) then (if 0 ≤ x4 then (if (rd x0 x4) = 32 then (mudlarkref01_Octal.l0 k x0 (wrap64 (x4 + 1))) else (mudlarkref01_Octal.j1 k x0 x4)) else (none)) else (mudlarkref01_Octal.j1 k x0 x4)
end
def mudlarkref01_Octal.f (k : Nat) (l0 : List Int) : Option (Int × Bool) := mudlarkref01_Octal.l0 k l0 0
set_option maxHeartbeats 8000000 in
set_option maxRecDepth 100000 in
theorem mudlarkref01_Octal.calls (k : Nat) (A0 : Option Addr) (c0 : Nat) (l0 : List Int) (r1 : Int) (r2 : Bool) (w : World) (hr0 : Kd.C (Kd.int .u8) w A0 l0.length l0) (hc0 : l0.length ≤ c0) (h : mudlarkref01_Octal.f k l0 = some (r1, r2)) :
  Calls Tryd.prog 54 #[.slice A0 l0.length c0] w fun e w' => e = .returned (.tuple #[.int .i64 r1, .bool r2]) ∧ Drawn0 w w' := by
 have HR0 := Aside0.mk hr0
 have HC0 := Aside0.mk hc0
 clear hr0 hc0
 have H : (mudlarkref01_Octal.l0 k l0 0) = some (r1, r2) := h
 clear h
 have HC2 := Aside0.mk H
 clear H
 go_enter Tryd.func54, Tryd.ntmps54
 go_upto_block 0 with (fail)
 go_cut [4] (fun v4 wc => ∃ (kq : Nat) (x4_1 : Int), v4 = .int .i64 x4_1 ∧ Aside0 (mudlarkref01_Octal.j1 kq l0 x4_1 = some (r1, r2)) ∧ Aside0 (kq ≤ k) ∧ Drawn0 w wc)
 case first =>
  have H := HC2.out
  clear HC2
  have H' := Aside0.mk H
  clear H
  go_wp2
  go_loopg [4] k (fun kq v4 w' => ∃ (x4_1 : Int), v4 = .int .i64 x4_1 ∧ Aside0 (mudlarkref01_Octal.l0 kq l0 x4_1 = some (r1, r2)) ∧ Aside0 (kq ≤ k) ∧ Drawn0 w w')
  case atStart => exact ⟨(0), (by first | rfl | (simp; done) | (simp [*]; done)), H', ⟨Nat.le_refl _⟩, by repeat (first | exact Drawn0.refl _ | apply Drawn0.step)⟩
  case round =>
   clear H'
   try clear p2
   obtain ⟨x4_1, rfl, HA, HK1, ⟨m1, rfl⟩⟩ := hrel
   cases gk with
   | zero => exact absurd HA.out (by simp [mudlarkref01_Octal.l0])
   | succ k1 =>
    have H := HA.out
    clear HA
    simp only [mudlarkref01_Octal.l0] at H
    by_cases c3 : x4_1 < (l0.length : Int)
    ·rw [if_pos c3] at H
     have c3b0 : decide (x4_1 < (l0.length : Int)) = true := decide_eq_true c3
     clear c3
     (first | rw [c3b0] | (simp only [i64_w, i32_w]; rw [c3b0]) | skip)
     by_cases c4 : 0 ≤ x4_1
     ·rw [if_pos c4] at H
      have c4b0 : decide (0 ≤ x4_1) = true := decide_eq_true c4
      clear c4
      by_cases c5 : (rd l0 x4_1) = 32
      ·rw [if_pos c5] at H
       have c5b0 : ((rd l0 x4_1) == 32) = true := beq_iff_eq.mpr c5
       have c5b1 : ((rd l0 x4_1) != 32) = false := bne_eq_false_iff_eq.mpr c5
       clear c5
       have H' := Aside0.mk H
       clear H
       have p265 : 0 ≤ (x4_1 : Int) := of_decide_eq_true (by first | (with_reducible assumption) | assumption)
       have q265 : x4_1 < (l0.length : Int) := of_decide_eq_true (by first | (with_reducible assumption) | assumption)
       obtain ⟨ad265, e265, hx265_0⟩ := Kd.at_int HR0.out x4_1 p265 q265
       cases e265
       replace p265 := eq_true p265
       replace q265 := eq_true q265
       go_wp2
       go_roundg k1
       case measure => have := HK1.out; omega
       case rel => exact ⟨(wrap64 (x4_1 + 1)), (by first | rfl | (simp; done) | (simp [*]; done)), H', ⟨by have := HK1.out; omega⟩, by repeat (first | exact Drawn0.refl _ | apply Drawn0.step)⟩
      ·rw [if_neg c5] at H
       have c5b0 : ((rd l0 x4_1) == 32) = false := beq_eq_false_iff_ne.mpr c5
       have c5b1 : ((rd l0 x4_1) != 32) = true := bne_iff_ne.mpr c5
       have H' := Aside0.mk H
       clear H
       have p265 : 0 ≤ (x4_1 : Int) := of_decide_eq_true (by first | (with_reducible assumption) | assumption)
       have q265 : x4_1 < (l0.length : Int) := of_decide_eq_true (by first | (with_reducible assumption) | assumption)
       obtain ⟨ad265, e265, hx265_0⟩ := Kd.at_int HR0.out x4_1 p265 q265
       cases e265
       replace p265 := eq_true p265
       replace q265 := eq_true q265
       go_wp2
       go_meet
       case rel => exact ⟨_, (x4_1), (by first | rfl | (simp; done) | (simp [*]; done)), H', ⟨by have := HK1.out; first | omega | exact Nat.le_refl _⟩, by repeat (first | exact Drawn0.refl _ | apply Drawn0.step)⟩
     ·rw [if_neg c4] at H
      exact absurd H (by simp)
    ·rw [if_neg c3] at H
     have c3b0 : decide (x4_1 < (l0.length : Int)) = false := decide_eq_false c3
     clear c3
     (first | rw [c3b0] | (simp only [i64_w, i32_w]; rw [c3b0]) | skip)
     have H' := Aside0.mk H
     clear H
     go_wp2
     go_meet
     case rel => exact ⟨_, (x4_1), (by first | rfl | (simp; done) | (simp [*]; done)), H', ⟨by have := HK1.out; first | omega | exact Nat.le_refl _⟩, by repeat (first | exact Drawn0.refl _ | apply Drawn0.step)⟩
 case rest =>
  clear HC2
  try clear p2
  try clear q2
  try clear hx2
  try clear c3
  try clear c3b0
  try clear c4
  try clear c4b0
  try clear c5
  try clear c5b0
  try clear c5b1
  try clear hx265_0
  try clear p2
  try clear p265
  try clear q265
  obtain ⟨kq, x4_1, rfl, HA, HJ1, ⟨mc1, rfl⟩⟩ := hcut
  cases kq with
  | zero => exact absurd HA.out (by simp [mudlarkref01_Octal.j1])
  | succ kj1 =>
   have H := HA.out
   clear HA
   simp only [mudlarkref01_Octal.j1] at H
   have H' := Aside0.mk H
   clear H
   go_wp2
   go_loopg [4, 5] kj1 (fun kq v4 v5 w' => ∃ (x4_2 : Int) (x5_2 : Int), v4 = .int .i64 x4_2 ∧ v5 = .int .i64 x5_2 ∧ Aside0 (mudlarkref01_Octal.l1 kq l0 x4_2 x5_2 = some (r1, r2)) ∧ Aside0 (kq ≤ kj1) ∧ Drawn0 w w')
   case atStart => exact ⟨(x4_1), (0), (by first | rfl | (simp; done) | (simp [*]; done)), (by first | rfl | (simp; done) | (simp [*]; done)), H', ⟨Nat.le_refl _⟩, by repeat (first | exact Drawn0.refl _ | apply Drawn0.step)⟩
   case round =>
    clear H'
    try clear c1
    try clear p2
    try clear q2
    try clear hx2
    try clear c3
    try clear c3b0
    try clear c4
    try clear c4b0
    try clear c5
    try clear c5b0
    try clear c5b1
    try clear hx265_0
    try clear p2
    try clear p265
    try clear q2
    try clear q265
    obtain ⟨x4_2, x5_2, rfl, rfl, HA, HK2, ⟨m2, rfl⟩⟩ := hrel
    cases gk with
    | zero => exact absurd HA.out (by simp [mudlarkref01_Octal.l1])
    | succ k2 =>
     have H := HA.out
     clear HA
     simp only [mudlarkref01_Octal.l1] at H
     have HC6 := Aside0.mk H
     clear H
     go_upto_region 5 with (fail)
     go_cut [36] (fun v36 wc => ∃ (kq : Nat) (x36_5 : Bool), v36 = .bool x36_5 ∧ Aside0 (mudlarkref01_Octal.j3 kq l0 x4_2 x5_2 x36_5 = some (r1, r2)) ∧ Aside0 (kq ≤ k2) ∧ Drawn0 w wc)
     case first =>
      have H := HC6.out
      clear HC6
      by_cases c7 : x4_2 < (l0.length : Int)
      ·rw [if_pos c7] at H
       have c7b0 : decide (x4_2 < (l0.length : Int)) = true := decide_eq_true c7
       clear c7
       (first | rw [c7b0] | (simp only [i64_w, i32_w]; rw [c7b0]) | skip)
       by_cases c8 : 0 ≤ x4_2
       ·rw [if_pos c8] at H
        have c8b0 : decide (0 ≤ x4_2) = true := decide_eq_true c8
        clear c8
        by_cases c9 : (rd l0 x4_2) ≥ 48
        ·rw [if_pos c9] at H
         have c9b0 : decide (48 ≤ (rd l0 x4_2)) = true := decide_eq_true c9
         clear c9
         have H' := Aside0.mk H
         clear H
         have p266 : 0 ≤ (x4_2 : Int) := of_decide_eq_true (by first | (with_reducible assumption) | assumption)
         have q266 : x4_2 < (l0.length : Int) := of_decide_eq_true (by first | (with_reducible assumption) | assumption)
         obtain ⟨ad266, e266, hx266_0⟩ := Kd.at_int HR0.out x4_2 p266 q266
         cases e266
         replace p266 := eq_true p266
         replace q266 := eq_true q266
         have p267 : 0 ≤ (x4_2 : Int) := of_decide_eq_true (by first | (with_reducible assumption) | assumption)
         have q267 : x4_2 < (l0.length : Int) := of_decide_eq_true (by first | (with_reducible assumption) | assumption)
         obtain ⟨ad267, e267, hx267_0⟩ := Kd.at_int HR0.out x4_2 p267 q267
         obtain rfl : ad266 = ad267 := (by injection e267)
         replace p267 := eq_true p267
         replace q267 := eq_true q267
         go_wp2
         go_meet
         case rel => exact ⟨_, (decide ((rd l0 x4_2) ≤ 55)), (by first | rfl | (simp; done) | (simp [*]; done)), H', ⟨by have := HJ1.out; have := HK2.out; first | omega | exact Nat.le_refl _⟩, by repeat (first | exact Drawn0.refl _ | apply Drawn0.step)⟩
        ·rw [if_neg c9] at H
         have c9b0 : decide (48 ≤ (rd l0 x4_2)) = false := decide_eq_false c9
         clear c9
         have H' := Aside0.mk H
         clear H
         have p266 : 0 ≤ (x4_2 : Int) := of_decide_eq_true (by first | (with_reducible assumption) | assumption)
         have q266 : x4_2 < (l0.length : Int) := of_decide_eq_true (by first | (with_reducible assumption) | assumption)
         obtain ⟨ad266, e266, hx266_0⟩ := Kd.at_int HR0.out x4_2 p266 q266
         cases e266
         replace p266 := eq_true p266
         replace q266 := eq_true q266
         go_wp2
         go_meet
         case rel => exact ⟨_, (false), (by first | rfl | (simp; done) | (simp [*]; done)), H', ⟨by have := HJ1.out; have := HK2.out; first | omega | exact Nat.le_refl _⟩, by repeat (first | exact Drawn0.refl _ | apply Drawn0.step)⟩
       ·rw [if_neg c8] at H
        exact absurd H (by simp)
      ·rw [if_neg c7] at H
       have c7b0 : decide (x4_2 < (l0.length : Int)) = false := decide_eq_false c7
       clear c7
       (first | rw [c7b0] | (simp only [i64_w, i32_w]; rw [c7b0]) | skip)
       have H' := Aside0.mk H
       clear H
       go_wp2
       go_meet
       case rel => exact ⟨_, (false), (by first | rfl | (simp; done) | (simp [*]; done)), H', ⟨by have := HJ1.out; have := HK2.out; first | omega | exact Nat.le_refl _⟩, by repeat (first | exact Drawn0.refl _ | apply Drawn0.step)⟩
     case rest =>
      clear HC6
      try clear c1
      try clear p2
      try clear q2
      try clear hx2
      try clear c3
      try clear c3b0
      try clear c4
      try clear c4b0
      try clear c5
      try clear c5b0
      try clear c5b1
      try clear p6
      try clear c7
      try clear c7b0
      try clear c8
      try clear c8b0
      try clear c9
      try clear c9b0
      try clear hx265_0
      try clear hx266_0
      try clear hx267_0
      try clear p2
      try clear p265
      try clear p266
      try clear p267
      try clear q2
      try clear q265
      try clear q266
      try clear q267
      obtain ⟨kq, x36_5, rfl, HA, HJ5, ⟨mc5, rfl⟩⟩ := hcut
      cases kq with
      | zero => exact absurd HA.out (by simp [mudlarkref01_Octal.j3])
      | succ kj5 =>
       have H := HA.out
       clear HA
       simp only [mudlarkref01_Octal.j3] at H
       by_cases c10 : x36_5 = true
       ·subst c10
        have H1 : (if x5_2 > 576460752303423488 then (some (0, false)) else (if 0 ≤ x4_2 then (if x4_2 < (l0.length : Int) then (mudlarkref01_Octal.l1 kj5 l0 (wrap64 (x4_2 + 1)) (wrap64 ((wrap64 ((wrap64 (8 * x5_2)) + (wrap64 (rd l0 x4_2)))) - 48))) else (none)) else (none))) = some (r1, r2) := by rw [if_pos rfl] at H; exact H
        clear H
        have H := H1
        clear H1
        by_cases c11 : x5_2 > 576460752303423488
        ·rw [if_pos c11] at H
         have c11b0 : decide (576460752303423488 < x5_2) = true := decide_eq_true c11
         clear c11
         simp only [Option.some.injEq, Prod.mk.injEq] at H
         obtain ⟨rfl, rfl⟩ := H
         go_wp2
         go_ret2
         exact ⟨by first | rfl | (simp; done) | (simp [*]; done), by repeat (first | exact Drawn0.refl _ | apply Drawn0.step)⟩
        ·rw [if_neg c11] at H
         have c11b0 : decide (576460752303423488 < x5_2) = false := decide_eq_false c11
         clear c11
         by_cases c12 : 0 ≤ x4_2
         ·rw [if_pos c12] at H
          have c12b0 : decide (0 ≤ x4_2) = true := decide_eq_true c12
          clear c12
          by_cases c13 : x4_2 < (l0.length : Int)
          ·rw [if_pos c13] at H
           have c13b0 : decide (x4_2 < (l0.length : Int)) = true := decide_eq_true c13
           clear c13
           have H' := Aside0.mk H
           clear H
           have p268 : 0 ≤ (x4_2 : Int) := of_decide_eq_true (by first | (with_reducible assumption) | assumption)
           have q268 : x4_2 < (l0.length : Int) := of_decide_eq_true (by first | (with_reducible assumption) | assumption)
           obtain ⟨ad268, e268, hx268_0⟩ := Kd.at_int HR0.out x4_2 p268 q268
           cases e268
           replace p268 := eq_true p268
           replace q268 := eq_true q268
           go_wp2
           go_roundg kj5
           case measure => have := HJ1.out; have := HK2.out; have := HJ5.out; omega
           case rel => exact ⟨(wrap64 (x4_2 + 1)), (wrap64 ((wrap64 ((wrap64 (8 * x5_2)) + (wrap64 (rd l0 x4_2)))) - 48)), (by first | rfl | (simp; done) | (simp [*]; done)), (by first | rfl | (simp; done) | (simp [*]; done)), H', ⟨by have := HJ1.out; have := HK2.out; have := HJ5.out; omega⟩, by repeat (first | exact Drawn0.refl _ | apply Drawn0.step)⟩
          ·rw [if_neg c13] at H
           exact absurd H (by simp)
         ·rw [if_neg c12] at H
          exact absurd H (by simp)
       ·replace c10 := Bool.eq_false_iff.mpr c10
        subst c10
        have H1 : (if x5_2 > 4611686018427387904 then (some (0, false)) else (if 0 ≤ x4_2 then (if x4_2 ≤ (l0.length : Int) then ((mudlarkref01_blank.f kj5 (l0.drop (x4_2 : Int).toNat) true).bind fun t270 => (if t270 = true then (some (x5_2, true)) else (some (0, false)))) else (none)) else (none))) = some (r1, r2) := by rw [if_neg (show ¬ (false = true) by decide)] at H; exact H
        clear H
        have H := H1
        clear H1
        by_cases c14 : x5_2 > 4611686018427387904
        ·rw [if_pos c14] at H
         have c14b0 : decide (4611686018427387904 < x5_2) = true := decide_eq_true c14
         clear c14
         simp only [Option.some.injEq, Prod.mk.injEq] at H
         obtain ⟨rfl, rfl⟩ := H
         go_wp2
         go_ret2
         exact ⟨by first | rfl | (simp; done) | (simp [*]; done), by repeat (first | exact Drawn0.refl _ | apply Drawn0.step)⟩
        ·rw [if_neg c14] at H
         have c14b0 : decide (4611686018427387904 < x5_2) = false := decide_eq_false c14
         clear c14
         by_cases c15 : 0 ≤ x4_2
         ·rw [if_pos c15] at H
          have c15b0 := eq_true c15
          have c15b1 : decide (0 ≤ x4_2) = true := decide_eq_true c15
          clear c15
          by_cases c16 : x4_2 ≤ (l0.length : Int)
          ·rw [if_pos c16] at H
           have c16b0 := eq_true c16
           have c16b1 : decide (x4_2 ≤ (l0.length : Int)) = true := decide_eq_true c16
           clear c16
           replace H := Option.bind_eq_some_iff.mp H
           obtain ⟨t270, A170, H⟩ := H
           replace H : (if t270 = true then (some (x5_2, true)) else (some (0, false))) = some (r1, r2) := H
           have A17 := Aside0.mk A170
           clear A170
           by_cases c18 : t270 = true
           ·subst c18
            have H1 : (some (x5_2, true)) = some (r1, r2) := by rw [if_pos rfl] at H; exact H
            clear H
            have H := H1
            clear H1
            simp only [Option.some.injEq, Prod.mk.injEq] at H
            obtain ⟨rfl, rfl⟩ := H
            obtain ⟨i019, hi019, _, hsz19, _⟩ := info_parts info5
            obtain ⟨A19, hcut19, hA19, hC19⟩ := print_drop_of (P := Tryd.prog) (Value.int .u8) 0 22 5 .i64 Tryd.underlying22 hi019 hsz19 A0 c0 l0 x4_2 (of_decide_eq_true (by first | (with_reducible assumption) | assumption)) (of_decide_eq_true (by first | (with_reducible assumption) | assumption)) HC0.out
            have HR269 := Aside0.mk (Kd.C_of_reads (h1 := fun _ => rfl) (hA19 _ (Kd.reads_of_C HR0.out)))
            have HC269 := Aside0.mk hC19
            clear hA19 hC19 hi019 hsz19
            go_wp2_with (first | (go_at_call 68; (try rw [← List.length_drop]); (with_reducible refine (mudlarkref01_blank.calls kj5 _ _ (l0.drop (x4_2 : Int).toNat) true true _ ?side1 ?side2 A17.out).mono ?_); (case side1 => repeat (first | exact HR269.out | (with_reducible refine Kd.C_alloc ?_ _) | (with_reducible refine Kd.C_drewN ?_ _) | (with_reducible refine Kd.C_drew ?_))); (case side2 => exact HC269.out); rintro e w' ⟨rfl, ⟨nd, rfl⟩⟩))
            go_ret2
            exact ⟨by first | rfl | (simp; done) | (simp [*]; done), by repeat (first | exact Drawn0.refl _ | apply Drawn0.step)⟩
           ·replace c18 := Bool.eq_false_iff.mpr c18
            subst c18
            have H1 : (some (0, false)) = some (r1, r2) := by rw [if_neg (show ¬ (false = true) by decide)] at H; exact H
            clear H
            have H := H1
            clear H1
            simp only [Option.some.injEq, Prod.mk.injEq] at H
            obtain ⟨rfl, rfl⟩ := H
            obtain ⟨i020, hi020, _, hsz20, _⟩ := info_parts info5
            obtain ⟨A20, hcut20, hA20, hC20⟩ := print_drop_of (P := Tryd.prog) (Value.int .u8) 0 22 5 .i64 Tryd.underlying22 hi020 hsz20 A0 c0 l0 x4_2 (of_decide_eq_true (by first | (with_reducible assumption) | assumption)) (of_decide_eq_true (by first | (with_reducible assumption) | assumption)) HC0.out
            have HR269 := Aside0.mk (Kd.C_of_reads (h1 := fun _ => rfl) (hA20 _ (Kd.reads_of_C HR0.out)))
            have HC269 := Aside0.mk hC20
            clear hA20 hC20 hi020 hsz20
            go_wp2_with (first | (go_at_call 68; (try rw [← List.length_drop]); (with_reducible refine (mudlarkref01_blank.calls kj5 _ _ (l0.drop (x4_2 : Int).toNat) true false _ ?side1 ?side2 A17.out).mono ?_); (case side1 => repeat (first | exact HR269.out | (with_reducible refine Kd.C_alloc ?_ _) | (with_reducible refine Kd.C_drewN ?_ _) | (with_reducible refine Kd.C_drew ?_))); (case side2 => exact HC269.out); rintro e w' ⟨rfl, ⟨nd, rfl⟩⟩))
            go_ret2
            exact ⟨by first | rfl | (simp; done) | (simp [*]; done), by repeat (first | exact Drawn0.refl _ | apply Drawn0.step)⟩
          ·rw [if_neg c16] at H
           exact absurd H (by simp)
         ·rw [if_neg c15] at H
          exact absurd H (by simp)

/-! ### mudlarkref05_Told: function 31 -/
/-! ### mudlarkref05_Signed: function 33 -/
/-! ### mudlarkref05_Right: function 17 -/
end Go.Proofs.YtdeolcgabkkocaaDoor.P
end

section
namespace Go.Proofs.YtdeolcgabkkocaaDoor.P
open Go.RowKit Go.Proofs.YtdeolcgabkkocaaDoorW.PrintWords Go.Proofs.YtdeolcgabkkocaaDoorW.PrintLast Go.Proofs.YtdeolcgabkkocaaDoorW.PrintMore
attribute [local go_sem] max2_int min2_int max_two min_two max_three min_three max_four min_four   -- for this text's walks alone
set_option linter.unusedVariables false
set_option linter.unusedSimpArgs false

/-! ### mudlarkref01_PutOctal: function 52 -/
mutual
def mudlarkref01_PutOctal.j0 : Nat → Int → Int → Bool → Option (List Int × Bool)
 | 0, _, _, _ => none
 | k + 1, x0, x1, x21 => if x21 = true then (some (([] : List Int), false)) else (if 0 ≤ x1 then (if (x1 : Int).toNat ≤ 281474976710656 then (mudlarkref01_PutOctal.l0 k x0 (List.replicate (x1 : Int).toNat 0) (wrap64 (x1 - 2))) else (none)) else (none))
def mudlarkref01_PutOctal.l0 : Nat → Int → List Int → Int → Option (List Int × Bool)
 | 0, _, _, _ => none
 | k + 1, x0, x6, x7 => if x7 ≥ 0 then (if 0 ≤ x7 then (if x7 < (x6.length : Int) then (mudlarkref01_PutOctal.l0 k (wrap64 (Int.tdiv x0 8)) (x6.set (x7 : Int).toNat ((wrap64 (48 + (Int.tmod x0 8))) % 256)) (wrap64 (x7 - 1))) else (none)) else (none)) else (if x0 > 0 then (some (([] : List Int), false)) else (some (x6, true)))
end
def mudlarkref01_PutOctal.f (k : Nat) (a0 : Int) (a1 : Int) : Option (List Int × Bool) := if a1 < 2 then (mudlarkref01_PutOctal.j0 k a0 a1 true) else (if a1 > 32 then (mudlarkref01_PutOctal.j0 k a0 a1 true) else (if a0 < 0 then (mudlarkref01_PutOctal.j0 k a0 a1 true) else (mudlarkref01_PutOctal.j0 k a0 a1 (decide (a0 > 4611686018427387904)))))
set_option maxHeartbeats 8000000 in
set_option maxRecDepth 100000 in
theorem mudlarkref01_PutOctal.calls (k : Nat) (a0 : Int) (a1 : Int) (r1 : List Int) (r2 : Bool) (w : World) (h : mudlarkref01_PutOctal.f k a0 a1 = some (r1, r2)) :
  Calls Tryd.prog 52 #[.int .i64 a0, .int .i64 a1] w fun e w' => ∃ v0_ : Value, e = .returned (.tuple #[v0_, .bool r2]) ∧ Kd.R (Kd.int .u8) 5 w' w.heap.size (fun _ => True) v0_ r1 ∧ Below w.heap.size w w' := by
 have HB := Aside0.mk (Below.refl w.heap.size w)
 have H : (if a1 < 2 then (mudlarkref01_PutOctal.j0 k a0 a1 true) else (if a1 > 32 then (mudlarkref01_PutOctal.j0 k a0 a1 true) else (if a0 < 0 then (mudlarkref01_PutOctal.j0 k a0 a1 true) else (mudlarkref01_PutOctal.j0 k a0 a1 (decide (a0 > 4611686018427387904)))))) = some (r1, r2) := h
 clear h
 have HC3 := Aside0.mk H
 clear H
 go_enter Tryd.func52, Tryd.ntmps52
 go_upto_region 1 with (fail)
 go_cut [21] (fun v21 wc => ∃ (kq : Nat) (x21_2 : Bool), v21 = .bool x21_2 ∧ Aside0 (mudlarkref01_PutOctal.j0 kq a0 a1 x21_2 = some (r1, r2)) ∧ Aside0 (kq ≤ k) ∧ Aside0 (Below w.heap.size w wc))
 case first =>
  have H := HC3.out
  clear HC3
  by_cases c4 : a1 < 2
  ·rw [if_pos c4] at H
   have c4b0 : decide (a1 < 2) = true := decide_eq_true c4
   clear c4
   (first | rw [c4b0] | (simp only [i64_w, i32_w]; rw [c4b0]) | skip)
   have H' := Aside0.mk H
   clear H
   go_wp2
   go_meet
   case rel => exact ⟨_, (true), (by first | rfl | (simp; done) | (simp [*]; done)), H', ⟨by first | omega | exact Nat.le_refl _⟩, ⟨by repeat (first | (with_reducible first | exact HB.out | apply below_alloc | apply pw_below_drewN | apply below_drew1) | exact HB.out)⟩⟩
  ·rw [if_neg c4] at H
   have c4b0 : decide (a1 < 2) = false := decide_eq_false c4
   clear c4
   (first | rw [c4b0] | (simp only [i64_w, i32_w]; rw [c4b0]) | skip)
   by_cases c5 : a1 > 32
   ·rw [if_pos c5] at H
    have c5b0 : decide (32 < a1) = true := decide_eq_true c5
    clear c5
    have H' := Aside0.mk H
    clear H
    go_wp2
    go_meet
    case rel => exact ⟨_, (true), (by first | rfl | (simp; done) | (simp [*]; done)), H', ⟨by first | omega | exact Nat.le_refl _⟩, ⟨by repeat (first | (with_reducible first | exact HB.out | apply below_alloc | apply pw_below_drewN | apply below_drew1) | exact HB.out)⟩⟩
   ·rw [if_neg c5] at H
    have c5b0 : decide (32 < a1) = false := decide_eq_false c5
    clear c5
    by_cases c6 : a0 < 0
    ·rw [if_pos c6] at H
     have c6b0 : decide (a0 < 0) = true := decide_eq_true c6
     clear c6
     have H' := Aside0.mk H
     clear H
     go_wp2
     go_meet
     case rel => exact ⟨_, (true), (by first | rfl | (simp; done) | (simp [*]; done)), H', ⟨by first | omega | exact Nat.le_refl _⟩, ⟨by repeat (first | (with_reducible first | exact HB.out | apply below_alloc | apply pw_below_drewN | apply below_drew1) | exact HB.out)⟩⟩
    ·rw [if_neg c6] at H
     have c6b0 : decide (a0 < 0) = false := decide_eq_false c6
     clear c6
     have H' := Aside0.mk H
     clear H
     go_wp2
     go_meet
     case rel => exact ⟨_, (decide (a0 > 4611686018427387904)), (by first | rfl | (simp; done) | (simp [*]; done)), H', ⟨by first | omega | exact Nat.le_refl _⟩, ⟨by repeat (first | (with_reducible first | exact HB.out | apply below_alloc | apply pw_below_drewN | apply below_drew1) | exact HB.out)⟩⟩
 case rest =>
  clear HC3
  try clear p2
  try clear c4
  try clear c4b0
  try clear c5
  try clear c5b0
  try clear c6
  try clear c6b0
  obtain ⟨kq, x21_2, rfl, HA, HJ2, HB⟩ := hcut
  cases kq with
  | zero => exact absurd HA.out (by simp [mudlarkref01_PutOctal.j0])
  | succ kj2 =>
   have H := HA.out
   clear HA
   simp only [mudlarkref01_PutOctal.j0] at H
   by_cases c7 : x21_2 = true
   ·subst c7
    have H1 : (some (([] : List Int), false)) = some (r1, r2) := by rw [if_pos rfl] at H; exact H
    clear H
    have H := H1
    clear H1
    simp only [Option.some.injEq, Prod.mk.injEq] at H
    obtain ⟨rfl, rfl⟩ := H
    go_wp2
    go_ret2
    exact ⟨_, by first | rfl | (simp [errW_none, errW_some] <;> rfl) | (simp [*, errW_none, errW_some] <;> rfl), by first | exact Kd.R_nil _ _ _ _ _ | exact Kd.N_nil _ _ _ _ _ | exact Kd.V_nil _ _ _ _ _ | exact Kd.Q_nil _ _ _ _ _ | exact Kd.S_nil _ _ _ _ _, by repeat (first | (with_reducible first | exact HB.out | apply below_alloc | apply pw_below_drewN | apply below_drew1) | exact HB.out)⟩
   ·replace c7 := Bool.eq_false_iff.mpr c7
    subst c7
    have H1 : (if 0 ≤ a1 then (if (a1 : Int).toNat ≤ 281474976710656 then (mudlarkref01_PutOctal.l0 kj2 a0 (List.replicate (a1 : Int).toNat 0) (wrap64 (a1 - 2))) else (none)) else (none)) = some (r1, r2) := by rw [if_neg (show ¬ (false = true) by decide)] at H; exact H
    clear H
    have H := H1
    clear H1
    by_cases c8 : 0 ≤ a1
    ·rw [if_pos c8] at H
     have c8b0 := eq_true c8
     have c8b1 : decide (0 ≤ a1) = true := decide_eq_true c8
     clear c8
     by_cases c9 : (a1 : Int).toNat ≤ 281474976710656
     ·rw [if_pos c9] at H
      have c9b0 := eq_true c9
      have c9b1 : decide ((a1 : Int).toNat ≤ 281474976710656) = true := decide_eq_true c9
      clear c9
      obtain ⟨y103, hy103⟩ : ∃ y_ : List Int, y_ = (List.replicate (a1 : Int).toNat 0) := ⟨_, rfl⟩
      replace H : (mudlarkref01_PutOctal.l0 kj2 a0 y103 (wrap64 (a1 - 2))) = some (r1, r2) := by first | (rw [hy103]; with_reducible exact H) | (have H2_ := (Option.bind_some _ _).symm.trans H; rw [hy103]; with_reducible exact H2_) | (have H2_ := (Option.bind_some _ _).symm.trans H; with_reducible exact H2_) | with_reducible exact H | (rw [hy103]; exact H) | exact H
      have Ny103 := Aside0.mk hy103
      clear hy103
      have H' := Aside0.mk H
      clear H
      go_wp2_with (first | ((with_reducible refine gate_dst (N := 23) rfl ?_); refine Kd.R_make (Kd.int .u8) _ 5 rfl (N := 23) rfl 22 _ _ rfl a1 rfl rfl Tryd.underlying22 (.int .u8 0) 1 info5 rfl (by decide) (by omega) 0 (ok := fun _ => True) (okp := fun _ => True) rfl (fun _ hk => hk) trivial (of_decide_eq_true (by first | (with_reducible assumption) | assumption)) (Nat.le_trans (Nat.mul_le_mul_right _ (of_decide_eq_true (by first | (with_reducible assumption) | assumption) : a1.toNat ≤ 281474976710656)) (by omega)) (Below.refl _ _) (Nat.le_refl _) ?_; intro v104 w10 ho11 hb hg_ hnew_; clear hg_ hnew_; (first | rw [← Ny103.out] at ho11 | (simp only [Int.reduceToNat] at ho11; rw [← Ny103.out] at ho11)); have n0_ := Aside0.mk (Kd.R_lower ho11 (below_size (by repeat (first | (with_reducible first | exact HB.out | apply below_alloc | apply pw_below_drewN | apply below_drew1) | exact HB.out)))); have n1_ := Aside0.mk (below_step (by repeat (first | (with_reducible first | exact HB.out | apply below_alloc | apply pw_below_drewN | apply below_drew1) | exact HB.out)) hb); clear HB; have HO105 := n0_; have HB := n1_; clear n0_ n1_; clear hb ho11))
      go_loopg [0, 7] kj2 (fun kq v0 v7 w' => ∃ (x0_2 : Int) (x6_2 : List Int) (x7_2 : Int), v0 = .int .i64 x0_2 ∧ v7 = .int .i64 x7_2 ∧ Aside0 (mudlarkref01_PutOctal.l0 kq x0_2 x6_2 x7_2 = some (r1, r2)) ∧ Aside0 (kq ≤ kj2) ∧ Aside0 (Kd.R (Kd.int .u8) 5 w' w.heap.size (fun _ => True) v104 x6_2) ∧ Aside0 (Below w.heap.size w w'))
      case atStart => exact ⟨(a0), (y103), (wrap64 (a1 - 2)), (by first | rfl | (simp; done) | (simp [*]; done)), (by first | rfl | (simp; done) | (simp [*]; done)), H', ⟨Nat.le_refl _⟩, ⟨by (with_reducible repeat (first | apply Kd.R_alloc | apply Kd.R_drewN | apply Kd.R_drew)); exact HO105.out⟩, ⟨by repeat (first | (with_reducible first | exact HB.out | apply below_alloc | apply pw_below_drewN | apply below_drew1) | exact HB.out)⟩⟩
      case round =>
       clear H'
       try clear p2
       try clear c4
       try clear c4b0
       try clear c5
       try clear c5b0
       try clear c6
       try clear c6b0
       try clear p6
       try clear c7
       try clear c8
       try clear c8b0
       try clear c8b1
       try clear c9
       try clear c9b0
       try clear c9b1
       try clear p2
       obtain ⟨x0_2, x6_2, x7_2, rfl, rfl, HA, HK2, HO_6, HB⟩ := hrel
       cases gk with
       | zero => exact absurd HA.out (by simp [mudlarkref01_PutOctal.l0])
       | succ k2 =>
        have H := HA.out
        clear HA
        simp only [mudlarkref01_PutOctal.l0] at H
        by_cases c12 : x7_2 ≥ 0
        ·rw [if_pos c12] at H
         have c12b0 : decide (0 ≤ x7_2) = true := decide_eq_true c12
         clear c12
         by_cases c13 : 0 ≤ x7_2
         ·rw [if_pos c13] at H
          have c13b0 : decide (0 ≤ x7_2) = true := decide_eq_true c13
          clear c13
          by_cases c14 : x7_2 < (x6_2.length : Int)
          ·rw [if_pos c14] at H
           have c14b0 : decide (x7_2 < (x6_2.length : Int)) = true := decide_eq_true c14
           clear c14
           obtain ⟨y106, hy106⟩ : ∃ y_ : List Int, y_ = (x6_2.set (x7_2 : Int).toNat ((wrap64 (48 + (Int.tmod x0_2 8))) % 256)) := ⟨_, rfl⟩
           replace H : (mudlarkref01_PutOctal.l0 k2 (wrap64 (Int.tdiv x0_2 8)) y106 (wrap64 (x7_2 - 1))) = some (r1, r2) := by first | (rw [hy106]; with_reducible exact H) | (have H2_ := (Option.bind_some _ _).symm.trans H; rw [hy106]; with_reducible exact H2_) | (have H2_ := (Option.bind_some _ _).symm.trans H; with_reducible exact H2_) | with_reducible exact H | (rw [hy106]; exact H) | exact H
           have Ny106 := Aside0.mk hy106
           clear hy106
           have H' := Aside0.mk H
           clear H
           have p15 : 0 ≤ (x7_2 : Int) := of_decide_eq_true (by first | (with_reducible assumption) | assumption)
           have q15 : (x7_2 : Int) < ((x6_2.length : Int) : Int) := of_decide_eq_true (by first | (with_reducible assumption) | assumption)
           obtain ⟨go15, co15, eo15, gb15, gl15, cl15, HG15⟩ := Kd.R_form HO_6.out (by omega)
           (first | cases eo15 | (injection eo15 with ea_ en_ ec_; (first | subst ea_ | (injection ea_ with ea_; subst ea_)); subst ec_; clear en_))
           have GB15 := Aside0.mk gb15
           have GG15 := Aside0.mk HG15
           clear gb15 gl15 HG15
           obtain ⟨hx15_0, hf15_0⟩ := Kd.R_celln 0 HO_6.out (x7_2 : Int) p15 q15
           replace p15 := eq_true p15
           replace q15 := eq_true q15
           have HP16 := Kd.R_putg HO_6.out (x7_2 : Int) ((wrap64 (48 + (Int.tmod x0_2 8))) % 256)
           go_wp2_with (first | ((with_reducible refine gate_store (t := 5) (p := 36) rfl ?_); refine store_event (t := 5) (p := 36) (v := ?vo_w17) (w1 := (wr.setCell ⟨go15, (x7_2 : Int).toNat, none⟩ (.int .u8 ((wrap64 (48 + (Int.tmod x0_2 8))) % 256)))) ?hg ?ho ?hn ?hr ?_; (case ho => rfl); (case hg => rfl); (case hn => rfl); (case hr => first | (go_simp; done) | (go_simp; rfl)); intro w17 hw; have hg : wr.grownBy w17 (some go15) := (by rw [hw]; exact HP16.2); have hp_ : Kd.R (Kd.int .u8) 5 w17 w.heap.size (fun _ => True) (.slice (some ⟨go15, 0, none⟩) x6_2.length co15) y106 := (by rw [hw, Ny106.out]; exact HP16.1); clear HP16; have n0_ := Aside0.mk (hp_); have n1_ := Aside0.mk ((by rw [hw]; exact below_set (HB.out) GB15.out : Below w.heap.size w w17)); clear HO_6; clear HB; have HO_6 := n0_; have HB := n1_; clear n0_ n1_; clear hg hw hp_))
           go_roundg k2
           case measure => have := HJ2.out; have := HK2.out; omega
           case rel => exact ⟨(wrap64 (Int.tdiv x0_2 8)), (y106), (wrap64 (x7_2 - 1)), (by first | rfl | (simp; done) | (simp [*]; done)), (by first | rfl | (simp; done) | (simp [*]; done)), H', ⟨by have := HJ2.out; have := HK2.out; omega⟩, ⟨by (with_reducible repeat (first | apply Kd.R_alloc | apply Kd.R_drewN | apply Kd.R_drew)); exact HO_6.out⟩, ⟨by repeat (first | (with_reducible first | exact HB.out | apply below_alloc | apply pw_below_drewN | apply below_drew1) | exact HB.out)⟩⟩
          ·rw [if_neg c14] at H
           exact absurd H (by simp)
         ·rw [if_neg c13] at H
          exact absurd H (by simp)
        ·rw [if_neg c12] at H
         have c12b0 : decide (0 ≤ x7_2) = false := decide_eq_false c12
         clear c12
         by_cases c18 : x0_2 > 0
         ·rw [if_pos c18] at H
          have c18b0 : decide (0 < x0_2) = true := decide_eq_true c18
          clear c18
          simp only [Option.some.injEq, Prod.mk.injEq] at H
          obtain ⟨rfl, rfl⟩ := H
          go_wp2
          go_ret2
          exact ⟨_, by first | rfl | (simp [errW_none, errW_some] <;> rfl) | (simp [*, errW_none, errW_some] <;> rfl), by first | exact Kd.R_nil _ _ _ _ _ | exact Kd.N_nil _ _ _ _ _ | exact Kd.V_nil _ _ _ _ _ | exact Kd.Q_nil _ _ _ _ _ | exact Kd.S_nil _ _ _ _ _, by repeat (first | (with_reducible first | exact HB.out | apply below_alloc | apply pw_below_drewN | apply below_drew1) | exact HB.out)⟩
         ·rw [if_neg c18] at H
          have c18b0 : decide (0 < x0_2) = false := decide_eq_false c18
          clear c18
          simp only [Option.some.injEq, Prod.mk.injEq] at H
          obtain ⟨rfl, rfl⟩ := H
          go_wp2
          go_ret2
          exact ⟨_, by first | rfl | (simp [errW_none, errW_some] <;> rfl) | (simp [*, errW_none, errW_some] <;> rfl), by (with_reducible repeat (first | apply Kd.R_alloc | apply Kd.R_drewN | apply Kd.R_drew)); exact HO_6.out, by repeat (first | (with_reducible first | exact HB.out | apply below_alloc | apply pw_below_drewN | apply below_drew1) | exact HB.out)⟩
     ·rw [if_neg c9] at H
      exact absurd H (by simp)
    ·rw [if_neg c8] at H
     exact absurd H (by simp)

/-! ### mudlarkref05_Seal: function 28 -/
mutual
def mudlarkref05_Seal.j1 : Nat → List Int → Option (List Int)
 | 0, _ => none
 | k + 1, x3 => (mudlarkref05_Unsigned.f k x3).bind fun t112 => ((mudlarkref01_PutOctal.f k t112 7).bind fun bt113 => (mudlarkref05_Seal.l1 k x3 bt113.1 0))
def mudlarkref05_Seal.l1 : Nat → List Int → List Int → Int → Option (List Int)
 | 0, _, _, _ => none
 | k + 1, x3, x5, x7 => if x7 < 7 then (if 0 ≤ x7 then (if x7 < (x5.length : Int) then (if 0 ≤ (wrap64 (148 + x7)) then (if (wrap64 (148 + x7)) < (x3.length : Int) then (mudlarkref05_Seal.l1 k (x3.set ((wrap64 (148 + x7)) : Int).toNat (rd x5 x7)) x5 (wrap64 (x7 + 1))) else (none)) else (none)) else (none)) else (none)) else (if 155 < (x3.length : Int) then (some (x3.set (155 : Int).toNat 32)) else (none))
def mudlarkref05_Seal.l0 : Nat → List Int → List Int → Int → Option (List Int)
 | 0, _, _, _ => none
 | k + 1, x0, x3, x4 => if x4 < (x0.length : Int) then (if x4 < 512 then (if 0 ≤ x4 then (if x4 < (x3.length : Int) then (mudlarkref05_Seal.l0 k x0 (x3.set (x4 : Int).toNat (rd x0 x4)) (wrap64 (x4 + 1))) else (none)) else (none)) else (mudlarkref05_Seal.j1 k x3)) else (mudlarkref05_Seal.j1 k x3)
end
def mudlarkref05_Seal.f (k : Nat) (l0 : List Int) : Option (List Int) := if 512 ≤ 281474976710656 then (mudlarkref05_Seal.l0 k l0 (List.replicate 512 0) 0) else (none)
set_option maxHeartbeats 8000000 in
set_option maxRecDepth 100000 in
theorem mudlarkref05_Seal.calls (k : Nat) (A0 : Option Addr) (c0 : Nat) (l0 : List Int) (r : List Int) (w : World) (hr0 : Kd.C (Kd.int .u8) w A0 l0.length l0) (hc0 : l0.length ≤ c0) (h : mudlarkref05_Seal.f k l0 = some r) :
  Calls Tryd.prog 28 #[.slice A0 l0.length c0] w fun e w' => ∃ v0_ : Value, e = .returned (v0_) ∧ Kd.R (Kd.int .u8) 5 w' w.heap.size (fun _ => True) v0_ r ∧ Below w.heap.size w w' := by
 have HR0 := Aside0.mk hr0
 have HC0 := Aside0.mk hc0
 clear hr0 hc0
 have HB := Aside0.mk (Below.refl w.heap.size w)
 have H : (if 512 ≤ 281474976710656 then (mudlarkref05_Seal.l0 k l0 (List.replicate 512 0) 0) else (none)) = some r := h
 clear h
 by_cases c2 : 512 ≤ 281474976710656
 ·rw [if_pos c2] at H
  have c2b0 := eq_true c2
  have c2b1 : decide (512 ≤ 281474976710656) = true := decide_eq_true c2
  clear c2
  obtain ⟨y107, hy107⟩ : ∃ y_ : List Int, y_ = (List.replicate 512 0) := ⟨_, rfl⟩
  replace H : (mudlarkref05_Seal.l0 k l0 y107 0) = some r := by first | (rw [hy107]; with_reducible exact H) | (have H2_ := (Option.bind_some _ _).symm.trans H; rw [hy107]; with_reducible exact H2_) | (have H2_ := (Option.bind_some _ _).symm.trans H; with_reducible exact H2_) | with_reducible exact H | (rw [hy107]; exact H) | exact H
  have Ny107 := Aside0.mk hy107
  clear hy107
  have HC3 := Aside0.mk H
  clear H
  go_enter Tryd.func28, Tryd.ntmps28
  go_upto_block 0 with (first | ((with_reducible refine gate_dst (N := 8) rfl ?_); refine Kd.R_make (Kd.int .u8) _ 5 rfl (N := 8) rfl 22 _ _ rfl 512 rfl rfl Tryd.underlying22 (.int .u8 0) 1 info5 rfl (by decide) (by omega) 0 (ok := fun _ => True) (okp := fun _ => True) rfl (fun _ hk => hk) trivial (by omega) (by omega) (Below.refl _ _) (Nat.le_refl _) ?_; intro v108 w4 ho5 hb hg_ hnew_; clear hg_ hnew_; (first | rw [← Ny107.out] at ho5 | (simp only [Int.reduceToNat] at ho5; rw [← Ny107.out] at ho5)); have n0_ := Aside0.mk (Kd.R_lower ho5 (below_size (by repeat (first | (with_reducible first | exact HB.out | apply below_alloc | apply pw_below_drewN | apply below_drew1) | exact HB.out)))); have n1_ := Aside0.mk (below_step (by repeat (first | (with_reducible first | exact HB.out | apply below_alloc | apply pw_below_drewN | apply below_drew1) | exact HB.out)) hb); clear HB; have HO109 := n0_; have HB := n1_; clear n0_ n1_; clear hb ho5))
  (try simp only [Act.put, List.setIfInBounds_toArray, List.set_cons_zero, List.set_cons_succ])
  go_cut [] (fun wc => ∃ (kq : Nat) (x3_2 : List Int), Aside0 (mudlarkref05_Seal.j1 kq x3_2 = some r) ∧ Aside0 (kq ≤ k) ∧ Aside0 (Kd.R (Kd.int .u8) 5 wc w.heap.size (fun _ => True) v108 x3_2) ∧ Aside0 (Below w.heap.size w wc))
  case first =>
   have H := HC3.out
   clear HC3
   have H' := Aside0.mk H
   clear H
   go_wp2
   go_loopg [4] k (fun kq v4 w' => ∃ (x3_1 : List Int) (x4_1 : Int), v4 = .int .i64 x4_1 ∧ Aside0 (mudlarkref05_Seal.l0 kq l0 x3_1 x4_1 = some r) ∧ Aside0 (kq ≤ k) ∧ Aside0 (Kd.R (Kd.int .u8) 5 w' w.heap.size (fun _ => True) v108 x3_1) ∧ Aside0 (Below w.heap.size w w'))
   case atStart => exact ⟨(y107), (0), (by first | rfl | (simp; done) | (simp [*]; done)), H', ⟨Nat.le_refl _⟩, ⟨by (with_reducible repeat (first | apply Kd.R_alloc | apply Kd.R_drewN | apply Kd.R_drew)); exact HO109.out⟩, ⟨by repeat (first | (with_reducible first | exact HB.out | apply below_alloc | apply pw_below_drewN | apply below_drew1) | exact HB.out)⟩⟩
   case round =>
    clear H'
    try clear c2
    try clear c2b0
    try clear c2b1
    try clear p2
    obtain ⟨x3_1, x4_1, rfl, HA, HK1, HO_3, HB⟩ := hrel
    cases gk with
    | zero => exact absurd HA.out (by simp [mudlarkref05_Seal.l0])
    | succ k1 =>
     have H := HA.out
     clear HA
     simp only [mudlarkref05_Seal.l0] at H
     by_cases c6 : x4_1 < (l0.length : Int)
     ·rw [if_pos c6] at H
      have c6b0 : decide (x4_1 < (l0.length : Int)) = true := decide_eq_true c6
      clear c6
      (first | rw [c6b0] | (simp only [i64_w, i32_w]; rw [c6b0]) | skip)
      by_cases c7 : x4_1 < 512
      ·rw [if_pos c7] at H
       have c7b0 : decide (x4_1 < 512) = true := decide_eq_true c7
       clear c7
       by_cases c8 : 0 ≤ x4_1
       ·rw [if_pos c8] at H
        have c8b0 : decide (0 ≤ x4_1) = true := decide_eq_true c8
        clear c8
        by_cases c9 : x4_1 < (x3_1.length : Int)
        ·rw [if_pos c9] at H
         have c9b0 : decide (x4_1 < (x3_1.length : Int)) = true := decide_eq_true c9
         clear c9
         obtain ⟨y111, hy111⟩ : ∃ y_ : List Int, y_ = (x3_1.set (x4_1 : Int).toNat (rd l0 x4_1)) := ⟨_, rfl⟩
         replace H : (mudlarkref05_Seal.l0 k1 l0 y111 (wrap64 (x4_1 + 1))) = some r := by first | (rw [hy111]; with_reducible exact H) | (have H2_ := (Option.bind_some _ _).symm.trans H; rw [hy111]; with_reducible exact H2_) | (have H2_ := (Option.bind_some _ _).symm.trans H; with_reducible exact H2_) | with_reducible exact H | (rw [hy111]; exact H) | exact H
         have Ny111 := Aside0.mk hy111
         clear hy111
         have H' := Aside0.mk H
         clear H
         have p110 : 0 ≤ (x4_1 : Int) := of_decide_eq_true (by first | (with_reducible assumption) | assumption)
         have q110 : x4_1 < (l0.length : Int) := of_decide_eq_true (by first | (with_reducible assumption) | assumption)
         obtain ⟨ad110, e110, hx110_0⟩ := Kd.at_int HR0.out x4_1 p110 q110
         cases e110
         replace hx110_0 := (HB.out.cell (World.block_lt_of_cell? w _ hx110_0)).trans hx110_0
         replace p110 := eq_true p110
         replace q110 := eq_true q110
         have p10 : 0 ≤ (x4_1 : Int) := of_decide_eq_true (by first | (with_reducible assumption) | assumption)
         have q10 : (x4_1 : Int) < ((x3_1.length : Int) : Int) := of_decide_eq_true (by first | (with_reducible assumption) | assumption)
         obtain ⟨go10, co10, eo10, gb10, gl10, cl10, HG10⟩ := Kd.R_form HO_3.out (by omega)
         (first | cases eo10 | (injection eo10 with ea_ en_ ec_; (first | subst ea_ | (injection ea_ with ea_; subst ea_)); subst ec_; clear en_))
         have GB10 := Aside0.mk gb10
         have GG10 := Aside0.mk HG10
         clear gb10 gl10 HG10
         obtain ⟨hx10_0, hf10_0⟩ := Kd.R_celln 0 HO_3.out (x4_1 : Int) p10 q10
         replace p10 := eq_true p10
         replace q10 := eq_true q10
         have HP11 := Kd.R_putg HO_3.out (x4_1 : Int) (rd l0 x4_1)
         go_wp2_with (first | ((with_reducible refine gate_store (t := 5) (p := 25) rfl ?_); refine store_event (t := 5) (p := 25) (v := ?vo_w12) (w1 := (wr.setCell ⟨go10, (x4_1 : Int).toNat, none⟩ (.int .u8 (rd l0 x4_1)))) ?hg ?ho ?hn ?hr ?_; (case ho => rfl); (case hg => rfl); (case hn => rfl); (case hr => first | (go_simp; done) | (go_simp; rfl)); intro w12 hw; have hg : wr.grownBy w12 (some go10) := (by rw [hw]; exact HP11.2); have hp_ : Kd.R (Kd.int .u8) 5 w12 w.heap.size (fun _ => True) (.slice (some ⟨go10, 0, none⟩) x3_1.length co10) y111 := (by rw [hw, Ny111.out]; exact HP11.1); clear HP11; have n0_ := Aside0.mk (hp_); have n1_ := Aside0.mk ((by rw [hw]; exact below_set (HB.out) GB10.out : Below w.heap.size w w12)); clear HO_3; clear HB; have HO_3 := n0_; have HB := n1_; clear n0_ n1_; clear hg hw hp_))
         go_roundg k1
         case measure => have := HK1.out; omega
         case rel => exact ⟨(y111), (wrap64 (x4_1 + 1)), (by first | rfl | (simp; done) | (simp [*]; done)), H', ⟨by have := HK1.out; omega⟩, ⟨by (with_reducible repeat (first | apply Kd.R_alloc | apply Kd.R_drewN | apply Kd.R_drew)); exact HO_3.out⟩, ⟨by repeat (first | (with_reducible first | exact HB.out | apply below_alloc | apply pw_below_drewN | apply below_drew1) | exact HB.out)⟩⟩
        ·rw [if_neg c9] at H
         exact absurd H (by simp)
       ·rw [if_neg c8] at H
        exact absurd H (by simp)
      ·rw [if_neg c7] at H
       have c7b0 : decide (x4_1 < 512) = false := decide_eq_false c7
       clear c7
       have H' := Aside0.mk H
       clear H
       go_wp2
       go_meet
       case rel => exact ⟨_, (x3_1), H', ⟨by have := HK1.out; first | omega | exact Nat.le_refl _⟩, ⟨by (with_reducible repeat (first | apply Kd.R_alloc | apply Kd.R_drewN | apply Kd.R_drew)); exact HO_3.out⟩, ⟨by repeat (first | (with_reducible first | exact HB.out | apply below_alloc | apply pw_below_drewN | apply below_drew1) | exact HB.out)⟩⟩
     ·rw [if_neg c6] at H
      have c6b0 : decide (x4_1 < (l0.length : Int)) = false := decide_eq_false c6
      clear c6
      (first | rw [c6b0] | (simp only [i64_w, i32_w]; rw [c6b0]) | skip)
      have H' := Aside0.mk H
      clear H
      go_wp2
      go_meet
      case rel => exact ⟨_, (x3_1), H', ⟨by have := HK1.out; first | omega | exact Nat.le_refl _⟩, ⟨by (with_reducible repeat (first | apply Kd.R_alloc | apply Kd.R_drewN | apply Kd.R_drew)); exact HO_3.out⟩, ⟨by repeat (first | (with_reducible first | exact HB.out | apply below_alloc | apply pw_below_drewN | apply below_drew1) | exact HB.out)⟩⟩
  case rest =>
   clear HC3
   try clear p1
   try clear q1
   try clear hx1
   try clear hf1
   try clear c2
   try clear c2b0
   try clear c2b1
   try clear p2
   try clear c6
   try clear c6b0
   try clear p6
   try clear c7
   try clear c7b0
   try clear c8
   try clear c8b0
   try clear c9
   try clear c9b0
   try clear p10
   try clear q10
   try clear hx10
   try clear hf10
   try clear p11
   try clear q11
   try clear hx11
   try clear hx10_0
   try clear hx110_0
   try clear p10
   try clear p110
   try clear p2
   try clear q10
   try clear q110
   obtain ⟨kq, x3_2, HA, HJ2, HO_3, HB⟩ := hcut
   cases kq with
   | zero => exact absurd HA.out (by simp [mudlarkref05_Seal.j1])
   | succ kj2 =>
    have H := HA.out
    clear HA
    simp only [mudlarkref05_Seal.j1] at H
    replace H := Option.bind_eq_some_iff.mp H
    obtain ⟨t112, A130, H⟩ := H
    replace H : ((mudlarkref01_PutOctal.f kj2 t112 7).bind fun bt113 => (mudlarkref05_Seal.l1 kj2 x3_2 bt113.1 0)) = some r := H
    have A13 := Aside0.mk A130
    clear A130
    replace H := Option.bind_eq_some_iff.mp H
    obtain ⟨⟨t113, t114⟩, A140, H⟩ := H
    replace H : (mudlarkref05_Seal.l1 kj2 x3_2 t113 0) = some r := H
    have A14 := Aside0.mk A140
    clear A140
    have H' := Aside0.mk H
    clear H
    obtain ⟨Ao15, co15, eo15⟩ := Kd.R_slice HO_3.out
    subst eo15
    go_wp2_with (first | ((with_reducible refine gate_callee (f := 32) rfl ?_); refine goesL_ (some 28) rfl rfl Tryd.func32 (by kernel_rfl) rfl #[.slice Ao15 x3_2.length co15] rfl (by (try simp only [List.map_toArray, List.map_cons, List.map_nil]); first | done | rfl | (simp only [List.length_drop, List.length_take]; rfl)) ?_; (with_reducible refine (mudlarkref05_Unsigned.calls kj2 _ _ x3_2 t112 _ ?side1 ?side2 A13.out).mono ?_); (case side1 => repeat (first | exact (Kd.R_reads' HO_3.out).2.2 | (with_reducible refine Kd.C_alloc ?_ _) | (with_reducible refine Kd.C_drewN ?_ _) | (with_reducible refine Kd.C_drew ?_))); (case side2 => exact (Kd.R_reads' HO_3.out).2.1); rintro e w' ⟨rfl, ⟨nd, rfl⟩⟩; refine ⟨_, rfl, ?_⟩) | ((with_reducible refine gate_callee (f := 52) rfl ?_); refine goesL_ (some 29) rfl rfl Tryd.func52 (by kernel_rfl) rfl #[.int .i64 t112, .int .i64 7] rfl (by (try simp only [List.map_toArray, List.map_cons, List.map_nil]); first | done | rfl | (simp only [List.length_drop, List.length_take]; rfl)) ?_; (with_reducible refine (mudlarkref01_PutOctal.calls kj2 t112 7 t113 t114 _ A14.out).mono ?_); rintro e w16 ⟨v115, rfl, ho0, hb⟩; refine ⟨_, rfl, ?_⟩; have n0_ := Aside0.mk (Kd.R_elder' (by (with_reducible repeat (first | apply Kd.R_alloc | apply Kd.R_drewN | apply Kd.R_drew)); exact HO_3.out) (Kd.R_base ho0) hb); have n1_ := Aside0.mk (Kd.R_lower (Kd.R_new' ho0 (Kd.R_lt (by (with_reducible repeat (first | apply Kd.R_alloc | apply Kd.R_drewN | apply Kd.R_drew)); exact HO_3.out))) (below_size (by repeat (first | (with_reducible first | exact HB.out | apply below_alloc | apply pw_below_drewN | apply below_drew1) | exact HB.out)))); have n2_ := Aside0.mk (below_step (by repeat (first | (with_reducible first | exact HB.out | apply below_alloc | apply pw_below_drewN | apply below_drew1) | exact HB.out)) hb); clear HO_3; clear HB; have HO_3 := n0_; have HO116 := n1_; have HB := n2_; clear n0_ n1_ n2_; (try clear hb); (try clear hb2); (try clear hk); (try clear hi); (try clear ho0)))
    obtain ⟨nx3_2_, hnx3_2_⟩ : ∃ n_, n_ = x3_2.length := ⟨_, rfl⟩
    try rw [← hnx3_2_] at HO116
    try rw [← hnx3_2_] at HO_3
    try rw [← hnx3_2_]
    (try (have HX_ := hnx3_2_; clear hnx3_2_; have hnx3_2_ := Aside0.mk HX_; clear HX_))
    go_loopg [7] kj2 (fun kq v7 w' => ∃ (x3_2 : List Int) (x7_2 : Int), v7 = .int .i64 x7_2 ∧ Aside0 (mudlarkref05_Seal.l1 kq x3_2 t113 x7_2 = some r) ∧ Aside0 (kq ≤ kj2) ∧ Aside0 (Kd.R (Kd.int .u8) 5 w' w.heap.size (fun k_ => some k_ ≠ (v115 : Value).ownBlock) (.slice Ao15 nx3_2_ co15) x3_2) ∧ Aside0 (Kd.R (Kd.int .u8) 5 w' w.heap.size (fun k_ => some k_ ≠ ((.slice Ao15 nx3_2_ co15) : Value).ownBlock) v115 t113) ∧ Aside0 (Below w.heap.size w w'))
    case atStart => exact ⟨(x3_2), (0), (by first | rfl | (simp; done) | (simp [*]; done)), H', ⟨Nat.le_refl _⟩, ⟨by (with_reducible repeat (first | apply Kd.R_alloc | apply Kd.R_drewN | apply Kd.R_drew)); exact Kd.R_mono HO_3.out (fun _ hk => hk.2)⟩, ⟨by (with_reducible repeat (first | apply Kd.R_alloc | apply Kd.R_drewN | apply Kd.R_drew)); exact Kd.R_mono HO116.out (fun _ hk => hk.2)⟩, ⟨by repeat (first | (with_reducible first | exact HB.out | apply below_alloc | apply pw_below_drewN | apply below_drew1) | exact HB.out)⟩⟩
    case round =>
     clear H'
     try clear p1
     try clear q1
     try clear hx1
     try clear hf1
     try clear c2
     try clear c2b0
     try clear c2b1
     try clear p2
     try clear c3
     try clear c5
     try clear c6
     try clear c6b0
     try clear p6
     try clear c7
     try clear c7b0
     try clear c8
     try clear c8b0
     try clear c9
     try clear c9b0
     try clear p10
     try clear q10
     try clear hx10
     try clear hf10
     try clear p11
     try clear q11
     try clear hx11
     try clear hx10_0
     try clear hx110_0
     try clear p1
     try clear p10
     try clear p11
     try clear p110
     try clear p2
     try clear p6
     try clear q1
     try clear q10
     try clear q11
     try clear q110
     obtain ⟨x3_2, x7_2, rfl, HA, HK2, HO_3, HO_5, HB⟩ := hrel
     cases gk with
     | zero => exact absurd HA.out (by simp [mudlarkref05_Seal.l1])
     | succ k2 =>
      have H := HA.out
      clear HA
      simp only [mudlarkref05_Seal.l1] at H
      by_cases c17 : x7_2 < 7
      ·rw [if_pos c17] at H
       have c17b0 : decide (x7_2 < 7) = true := decide_eq_true c17
       clear c17
       by_cases c18 : 0 ≤ x7_2
       ·rw [if_pos c18] at H
        have c18b0 : decide (0 ≤ x7_2) = true := decide_eq_true c18
        clear c18
        by_cases c19 : x7_2 < (t113.length : Int)
        ·rw [if_pos c19] at H
         have c19b0 : decide (x7_2 < (t113.length : Int)) = true := decide_eq_true c19
         clear c19
         obtain ⟨ji20, hji20⟩ : ∃ j_ : Int, (wrap64 (148 + x7_2)) = j_ := ⟨_, rfl⟩
         replace H : (if 0 ≤ (ji20) then (if (ji20) < (x3_2.length : Int) then (mudlarkref05_Seal.l1 k2 (x3_2.set ((ji20) : Int).toNat (rd t113 x7_2)) t113 (wrap64 (x7_2 + 1))) else (none)) else (none)) = some r := by first | (rw [hji20] at H; exact H) | (simp only [hji20] at H ⊢; exact H)
         have hji20w : (IntKind.i64.wrap (148 + x7_2)) = ji20 := (i64_w _).trans hji20
         by_cases c21 : 0 ≤ (ji20)
         ·rw [if_pos c21] at H
          have c21b0 : decide (0 ≤ (ji20)) = true := decide_eq_true c21
          clear c21
          by_cases c22 : (ji20) < (x3_2.length : Int)
          ·rw [if_pos c22] at H
           have c22b0 : decide ((ji20) < (x3_2.length : Int)) = true := decide_eq_true c22
           clear c22
           obtain ⟨y118, hy118⟩ : ∃ y_ : List Int, y_ = (x3_2.set ((ji20) : Int).toNat (rd t113 x7_2)) := ⟨_, rfl⟩
           replace H : (mudlarkref05_Seal.l1 k2 y118 t113 (wrap64 (x7_2 + 1))) = some r := by first | (rw [hy118]; with_reducible exact H) | (have H2_ := (Option.bind_some _ _).symm.trans H; rw [hy118]; with_reducible exact H2_) | (have H2_ := (Option.bind_some _ _).symm.trans H; with_reducible exact H2_) | with_reducible exact H | (rw [hy118]; exact H) | exact H
           have Ny118 := Aside0.mk hy118
           clear hy118
           have H' := Aside0.mk H
           clear H
           obtain ⟨Ao24, co24, eo24⟩ := Kd.R_slice HO_5.out
           subst eo24
           have p117 : 0 ≤ (x7_2 : Int) := of_decide_eq_true (by first | (with_reducible assumption) | assumption)
           have q117 : x7_2 < (t113.length : Int) := of_decide_eq_true (by first | (with_reducible assumption) | assumption)
           obtain ⟨ad117, e117, hx117_0⟩ := Kd.at_int (Kd.R_reads' HO_5.out).2.2 x7_2 p117 q117
           cases e117
           replace p117 := eq_true p117
           replace q117 := eq_true q117
           have p23 : 0 ≤ ((ji20) : Int) := of_decide_eq_true (by first | (with_reducible assumption) | assumption)
           have q23 : ((ji20) : Int) < ((x3_2.length : Int) : Int) := of_decide_eq_true (by first | (with_reducible assumption) | assumption)
           obtain ⟨go23, co23, eo23, gb23, gl23, cl23, HG23⟩ := Kd.R_form HO_3.out (by omega)
           (first | cases eo23 | (injection eo23 with ea_ en_ ec_; (first | subst ea_ | (injection ea_ with ea_; subst ea_)); subst ec_; clear en_))
           have GB23 := Aside0.mk gb23
           have GG23 := Aside0.mk HG23
           clear gb23 gl23 HG23
           obtain ⟨hx23_0, hf23_0⟩ := Kd.R_celln 0 HO_3.out ((ji20) : Int) p23 q23
           replace p23 := eq_true p23
           replace q23 := eq_true q23
           have HP25 := Kd.R_putg HO_3.out ((ji20) : Int) (rd t113 x7_2)
           go_wp2_with (first | ((with_reducible refine gate_store (t := 5) (p := 43) rfl ?_); refine store_event (t := 5) (p := 43) (v := ?vo_w26) (w1 := (wr.setCell ⟨go23, ((ji20) : Int).toNat, none⟩ (.int .u8 (rd t113 x7_2)))) ?hg ?ho ?hn ?hr ?_; (case ho => rfl); (case hg => rfl); (case hn => rfl); (case hr => first | (go_simp; done) | (go_simp; rfl)); intro w26 hw; have hg : wr.grownBy w26 (some go23) := (by rw [hw]; exact HP25.2); have hp_ : Kd.R (Kd.int .u8) 5 w26 w.heap.size (fun k_ => some k_ ≠ (.slice (some ad117) t113.length co24 : Value).ownBlock) (.slice (some ⟨go23, 0, none⟩) x3_2.length co15) y118 := (by rw [hw, Ny118.out]; exact HP25.1); clear HP25; have n0_ := Aside0.mk (hp_); have n1_ := Aside0.mk (Kd.R_after (v := (.slice (some ⟨go23, 0, none⟩) x3_2.length co15)) (v1 := (.slice (some ⟨go23, 0, none⟩) x3_2.length co15)) (ok := (fun _ => True)) (by (with_reducible repeat (first | apply Kd.R_alloc | apply Kd.R_drewN | apply Kd.R_drew)); exact Kd.R_mono HO_5.out (fun _ hk => ⟨trivial, hk⟩)) hg (.inl rfl)); have n2_ := Aside0.mk ((by rw [hw]; exact below_set (HB.out) GB23.out : Below w.heap.size w w26)); clear HO_3; clear HO_5; clear HB; have HO_3 := n0_; have HO_5 := n1_; have HB := n2_; clear n0_ n1_ n2_; clear hg hw hp_))
           go_roundg k2
           case measure => have := HJ2.out; have := HK2.out; omega
           case rel => exact ⟨(y118), (wrap64 (x7_2 + 1)), (by first | rfl | (simp; done) | (simp [*]; done)), H', ⟨by have := HJ2.out; have := HK2.out; omega⟩, ⟨by (with_reducible repeat (first | apply Kd.R_alloc | apply Kd.R_drewN | apply Kd.R_drew)); exact HO_3.out⟩, ⟨by (with_reducible repeat (first | apply Kd.R_alloc | apply Kd.R_drewN | apply Kd.R_drew)); exact Kd.R_mono HO_5.out (fun _ hk => hk.2)⟩, ⟨by repeat (first | (with_reducible first | exact HB.out | apply below_alloc | apply pw_below_drewN | apply below_drew1) | exact HB.out)⟩⟩
          ·rw [if_neg c22] at H
           exact absurd H (by simp)
         ·rw [if_neg c21] at H
          exact absurd H (by simp)
        ·rw [if_neg c19] at H
         exact absurd H (by simp)
       ·rw [if_neg c18] at H
        exact absurd H (by simp)
      ·rw [if_neg c17] at H
       have c17b0 : decide (x7_2 < 7) = false := decide_eq_false c17
       clear c17
       by_cases c27 : 155 < (x3_2.length : Int)
       ·rw [if_pos c27] at H
        have c27b0 : decide (155 < (x3_2.length : Int)) = true := decide_eq_true c27
        have c27b1 : decide (155 < x3_2.length) = true := decide_eq_true (by omega)
        clear c27
        obtain ⟨y119, hy119⟩ : ∃ y_ : List Int, y_ = (x3_2.set (155 : Int).toNat 32) := ⟨_, rfl⟩
        replace H : (some y119) = some r := by first | (rw [hy119]; with_reducible exact H) | (have H2_ := (Option.bind_some _ _).symm.trans H; rw [hy119]; with_reducible exact H2_) | (have H2_ := (Option.bind_some _ _).symm.trans H; with_reducible exact H2_) | with_reducible exact H | (rw [hy119]; exact H) | exact H
        have Ny119 := Aside0.mk hy119
        clear hy119
        obtain rfl := Option.some.inj H
        have p28 : 0 ≤ (155 : Int) := (by omega)
        have q28 : (155 : Int) < ((x3_2.length : Int) : Int) := of_decide_eq_true (by first | (with_reducible assumption) | assumption)
        have qi28 : (155 < x3_2.length) = True := eq_true (by omega)
        obtain ⟨go28, co28, eo28, gb28, gl28, cl28, HG28⟩ := Kd.R_form HO_3.out (by omega)
        (first | cases eo28 | (injection eo28 with ea_ en_ ec_; (first | subst ea_ | (injection ea_ with ea_; subst ea_)); subst ec_; clear en_))
        have GB28 := Aside0.mk gb28
        have GG28 := Aside0.mk HG28
        clear gb28 gl28 HG28
        obtain ⟨hx28_0, hf28_0⟩ := Kd.R_celln 0 HO_3.out (155 : Int) p28 q28
        (try rw [show ((155 : Int)).toNat = 155 from rfl] at hx28_0)
        (try simp only [Nat.reduceMul, Nat.zero_mul, Nat.zero_add, Nat.reduceAdd] at hx28_0)
        (try rw [show ((155 : Int)).toNat = 155 from rfl] at hf28_0)
        (try simp only [Nat.reduceMul, Nat.zero_mul, Nat.zero_add, Nat.reduceAdd] at hf28_0)
        replace p28 := eq_true p28
        replace q28 := eq_true q28
        have HP29 := Kd.R_putg HO_3.out (155 : Int) 32
        go_wp2_with (first | ((with_reducible refine gate_store (t := 5) (p := 45) rfl ?_); refine store_event (t := 5) (p := 45) (v := ?vo_w30) (w1 := (wr.setCell ⟨go28, (155 : Int).toNat, none⟩ (.int .u8 32))) ?hg ?ho ?hn ?hr ?_; (case ho => rfl); (case hg => rfl); (case hn => rfl); (case hr => first | (go_simp; done) | (go_simp; rfl)); intro w30 hw; have hg : wr.grownBy w30 (some go28) := (by rw [hw]; exact HP29.2); have hp_ : Kd.R (Kd.int .u8) 5 w30 w.heap.size (fun k_ => some k_ ≠ (v115 : Value).ownBlock) (.slice (some ⟨go28, 0, none⟩) x3_2.length co15) y119 := (by rw [hw, Ny119.out]; exact HP29.1); clear HP29; have n0_ := Aside0.mk (hp_); have n1_ := Aside0.mk (Kd.R_after (v := (.slice (some ⟨go28, 0, none⟩) x3_2.length co15)) (v1 := (.slice (some ⟨go28, 0, none⟩) x3_2.length co15)) (ok := (fun _ => True)) (by (with_reducible repeat (first | apply Kd.R_alloc | apply Kd.R_drewN | apply Kd.R_drew)); exact Kd.R_mono HO_5.out (fun _ hk => ⟨trivial, hk⟩)) hg (.inl rfl)); have n2_ := Aside0.mk ((by rw [hw]; exact below_set (HB.out) GB28.out : Below w.heap.size w w30)); clear HO_3; clear HO_5; clear HB; have HO_3 := n0_; have HO_5 := n1_; have HB := n2_; clear n0_ n1_ n2_; clear hg hw hp_))
        go_ret
        exact ⟨_, by first | rfl | (simp [errW_none, errW_some] <;> rfl) | (simp [*, errW_none, errW_some] <;> rfl), by (with_reducible repeat (first | apply Kd.R_alloc | apply Kd.R_drewN | apply Kd.R_drew)); exact Kd.R_mono HO_3.out (fun _ hk => trivial), by repeat (first | (with_reducible first | exact HB.out | apply below_alloc | apply pw_below_drewN | apply below_drew1) | exact HB.out)⟩
       ·rw [if_neg c27] at H
        exact absurd H (by simp)
 ·rw [if_neg c2] at H
  exact absurd H (by simp)

/-! ### mudlarkref08_Known: function 46 -/
def mudlarkref08_Known.f (a0 : Int) : Option (Bool) := if a0 ≥ 48 then (if a0 ≤ 55 then (some true) else (if a0 = 83 then (some true) else (if a0 = 120 then (some true) else (if a0 = 103 then (some true) else (if a0 = 76 then (some true) else (some (a0 == 75))))))) else (if a0 = 83 then (some true) else (if a0 = 120 then (some true) else (if a0 = 103 then (some true) else (if a0 = 76 then (some true) else (some (a0 == 75))))))
set_option maxHeartbeats 8000000 in
set_option maxRecDepth 100000 in
theorem mudlarkref08_Known.calls (a0 : Int) (r : Bool) (w : World) (h : mudlarkref08_Known.f a0 = some r) :
  Calls Tryd.prog 46 #[.int .u8 a0] w fun e w' => e = .returned (.bool r) ∧ Drawn0 w w' := by
 have H : (if a0 ≥ 48 then (if a0 ≤ 55 then (some true) else (if a0 = 83 then (some true) else (if a0 = 120 then (some true) else (if a0 = 103 then (some true) else (if a0 = 76 then (some true) else (some (a0 == 75))))))) else (if a0 = 83 then (some true) else (if a0 = 120 then (some true) else (if a0 = 103 then (some true) else (if a0 = 76 then (some true) else (some (a0 == 75))))))) = some r := h
 clear h
 by_cases c2 : a0 ≥ 48
 ·rw [if_pos c2] at H
  have c2b0 : decide (48 ≤ a0) = true := decide_eq_true c2
  clear c2
  by_cases c3 : a0 ≤ 55
  ·rw [if_pos c3] at H
   have c3b0 : decide (a0 ≤ 55) = true := decide_eq_true c3
   clear c3
   obtain rfl := Option.some.inj H
   go_enter Tryd.func46, Tryd.ntmps46
   go_wp2
   go_ret
   exact ⟨by first | rfl | (simp; done) | (simp [*]; done), by repeat (first | exact Drawn0.refl _ | apply Drawn0.step)⟩
  ·rw [if_neg c3] at H
   have c3b0 : decide (a0 ≤ 55) = false := decide_eq_false c3
   clear c3
   by_cases c4 : a0 = 83
   ·rw [if_pos c4] at H
    have c4b0 : (a0 == 83) = true := beq_iff_eq.mpr c4
    have c4b1 : (a0 != 83) = false := bne_eq_false_iff_eq.mpr c4
    clear c4
    obtain rfl := Option.some.inj H
    go_enter Tryd.func46, Tryd.ntmps46
    go_wp2
    go_ret
    exact ⟨by first | rfl | (simp; done) | (simp [*]; done), by repeat (first | exact Drawn0.refl _ | apply Drawn0.step)⟩
   ·rw [if_neg c4] at H
    have c4b0 : (a0 == 83) = false := beq_eq_false_iff_ne.mpr c4
    have c4b1 : (a0 != 83) = true := bne_iff_ne.mpr c4
    by_cases c5 : a0 = 120
    ·rw [if_pos c5] at H
     have c5b0 : (a0 == 120) = true := beq_iff_eq.mpr c5
     have c5b1 : (a0 != 120) = false := bne_eq_false_iff_eq.mpr c5
     clear c5
     obtain rfl := Option.some.inj H
     go_enter Tryd.func46, Tryd.ntmps46
     go_wp2
     go_ret
     exact ⟨by first | rfl | (simp; done) | (simp [*]; done), by repeat (first | exact Drawn0.refl _ | apply Drawn0.step)⟩
    ·rw [if_neg c5] at H
     have c5b0 : (a0 == 120) = false := beq_eq_false_iff_ne.mpr c5
     have c5b1 : (a0 != 120) = true := bne_iff_ne.mpr c5
     by_cases c6 : a0 = 103
     ·rw [if_pos c6] at H
      have c6b0 : (a0 == 103) = true := beq_iff_eq.mpr c6
      have c6b1 : (a0 != 103) = false := bne_eq_false_iff_eq.mpr c6
      clear c6
      obtain rfl := Option.some.inj H
      go_enter Tryd.func46, Tryd.ntmps46
      go_wp2
      go_ret
      exact ⟨by first | rfl | (simp; done) | (simp [*]; done), by repeat (first | exact Drawn0.refl _ | apply Drawn0.step)⟩
     ·rw [if_neg c6] at H
      have c6b0 : (a0 == 103) = false := beq_eq_false_iff_ne.mpr c6
      have c6b1 : (a0 != 103) = true := bne_iff_ne.mpr c6
      by_cases c7 : a0 = 76
      ·rw [if_pos c7] at H
       have c7b0 : (a0 == 76) = true := beq_iff_eq.mpr c7
       have c7b1 : (a0 != 76) = false := bne_eq_false_iff_eq.mpr c7
       clear c7
       obtain rfl := Option.some.inj H
       go_enter Tryd.func46, Tryd.ntmps46
       go_wp2
       go_ret
       exact ⟨by first | rfl | (simp; done) | (simp [*]; done), by repeat (first | exact Drawn0.refl _ | apply Drawn0.step)⟩
      ·rw [if_neg c7] at H
       have c7b0 : (a0 == 76) = false := beq_eq_false_iff_ne.mpr c7
       have c7b1 : (a0 != 76) = true := bne_iff_ne.mpr c7
       obtain rfl := Option.some.inj H
       go_enter Tryd.func46, Tryd.ntmps46
       go_wp2
       go_ret
       exact ⟨by first | rfl | (simp; done) | (simp [*]; done), by repeat (first | exact Drawn0.refl _ | apply Drawn0.step)⟩
 ·rw [if_neg c2] at H
  have c2b0 : decide (48 ≤ a0) = false := decide_eq_false c2
  clear c2
  by_cases c8 : a0 = 83
  ·rw [if_pos c8] at H
   have c8b0 : (a0 == 83) = true := beq_iff_eq.mpr c8
   have c8b1 : (a0 != 83) = false := bne_eq_false_iff_eq.mpr c8
   clear c8
   obtain rfl := Option.some.inj H
   go_enter Tryd.func46, Tryd.ntmps46
   go_wp2
   go_ret
   exact ⟨by first | rfl | (simp; done) | (simp [*]; done), by repeat (first | exact Drawn0.refl _ | apply Drawn0.step)⟩
  ·rw [if_neg c8] at H
   have c8b0 : (a0 == 83) = false := beq_eq_false_iff_ne.mpr c8
   have c8b1 : (a0 != 83) = true := bne_iff_ne.mpr c8
   by_cases c9 : a0 = 120
   ·rw [if_pos c9] at H
    have c9b0 : (a0 == 120) = true := beq_iff_eq.mpr c9
    have c9b1 : (a0 != 120) = false := bne_eq_false_iff_eq.mpr c9
    clear c9
    obtain rfl := Option.some.inj H
    go_enter Tryd.func46, Tryd.ntmps46
    go_wp2
    go_ret
    exact ⟨by first | rfl | (simp; done) | (simp [*]; done), by repeat (first | exact Drawn0.refl _ | apply Drawn0.step)⟩
   ·rw [if_neg c9] at H
    have c9b0 : (a0 == 120) = false := beq_eq_false_iff_ne.mpr c9
    have c9b1 : (a0 != 120) = true := bne_iff_ne.mpr c9
    by_cases c10 : a0 = 103
    ·rw [if_pos c10] at H
     have c10b0 : (a0 == 103) = true := beq_iff_eq.mpr c10
     have c10b1 : (a0 != 103) = false := bne_eq_false_iff_eq.mpr c10
     clear c10
     obtain rfl := Option.some.inj H
     go_enter Tryd.func46, Tryd.ntmps46
     go_wp2
     go_ret
     exact ⟨by first | rfl | (simp; done) | (simp [*]; done), by repeat (first | exact Drawn0.refl _ | apply Drawn0.step)⟩
    ·rw [if_neg c10] at H
     have c10b0 : (a0 == 103) = false := beq_eq_false_iff_ne.mpr c10
     have c10b1 : (a0 != 103) = true := bne_iff_ne.mpr c10
     by_cases c11 : a0 = 76
     ·rw [if_pos c11] at H
      have c11b0 : (a0 == 76) = true := beq_iff_eq.mpr c11
      have c11b1 : (a0 != 76) = false := bne_eq_false_iff_eq.mpr c11
      clear c11
      obtain rfl := Option.some.inj H
      go_enter Tryd.func46, Tryd.ntmps46
      go_wp2
      go_ret
      exact ⟨by first | rfl | (simp; done) | (simp [*]; done), by repeat (first | exact Drawn0.refl _ | apply Drawn0.step)⟩
     ·rw [if_neg c11] at H
      have c11b0 : (a0 == 76) = false := beq_eq_false_iff_ne.mpr c11
      have c11b1 : (a0 != 76) = true := bne_iff_ne.mpr c11
      obtain rfl := Option.some.inj H
      go_enter Tryd.func46, Tryd.ntmps46
      go_wp2
      go_ret
      exact ⟨by first | rfl | (simp; done) | (simp [*]; done), by repeat (first | exact Drawn0.refl _ | apply Drawn0.step)⟩

/-! ### mudlarkref02_Put: function 65 -/
def mudlarkref02_Put.l0 : Nat → ByteArray → List Int → Int → Option (List Int × Bool)
 | 0, _, _, _ => none
 | k + 1, x0, x6, x7 => if x7 < (x0.size : Int) then (if 0 ≤ x7 then (if (bt x0 x7) = 0 then (some (([] : List Int), false)) else (if x7 < (x6.length : Int) then (mudlarkref02_Put.l0 k x0 (x6.set (x7 : Int).toNat (bt x0 x7)) (wrap64 (x7 + 1))) else (none))) else (none)) else (some (x6, true))
def mudlarkref02_Put.f (k : Nat) (a0 : ByteArray) (a1 : Int) : Option (List Int × Bool) := if (a0.size : Int) > a1 then (some (([] : List Int), false)) else (if 0 ≤ a1 then (if (a1 : Int).toNat ≤ 281474976710656 then (mudlarkref02_Put.l0 k a0 (List.replicate (a1 : Int).toNat 0) 0) else (none)) else (none))
set_option maxHeartbeats 8000000 in
set_option maxRecDepth 100000 in
theorem mudlarkref02_Put.calls (k : Nat) (a0 : ByteArray) (a1 : Int) (r1 : List Int) (r2 : Bool) (w : World) (h : mudlarkref02_Put.f k a0 a1 = some (r1, r2)) :
  Calls Tryd.prog 65 #[.string a0, .int .i64 a1] w fun e w' => ∃ v0_ : Value, e = .returned (.tuple #[v0_, .bool r2]) ∧ Kd.R (Kd.int .u8) 5 w' w.heap.size (fun _ => True) v0_ r1 ∧ Below w.heap.size w w' := by
 have HB := Aside0.mk (Below.refl w.heap.size w)
 have H : (if (a0.size : Int) > a1 then (some (([] : List Int), false)) else (if 0 ≤ a1 then (if (a1 : Int).toNat ≤ 281474976710656 then (mudlarkref02_Put.l0 k a0 (List.replicate (a1 : Int).toNat 0) 0) else (none)) else (none))) = some (r1, r2) := h
 clear h
 by_cases c3 : (a0.size : Int) > a1
 ·rw [if_pos c3] at H
  have c3b0 : decide (a1 < (a0.size : Int)) = true := decide_eq_true c3
  clear c3
  simp only [Option.some.injEq, Prod.mk.injEq] at H
  obtain ⟨rfl, rfl⟩ := H
  go_enter Tryd.func65, Tryd.ntmps65
  go_wp2
  go_ret2
  exact ⟨_, by first | rfl | (simp [errW_none, errW_some] <;> rfl) | (simp [*, errW_none, errW_some] <;> rfl), by first | exact Kd.R_nil _ _ _ _ _ | exact Kd.N_nil _ _ _ _ _ | exact Kd.V_nil _ _ _ _ _ | exact Kd.Q_nil _ _ _ _ _ | exact Kd.S_nil _ _ _ _ _, by repeat (first | (with_reducible first | exact HB.out | apply below_alloc | apply pw_below_drewN | apply below_drew1) | exact HB.out)⟩
 ·rw [if_neg c3] at H
  have c3b0 : decide (a1 < (a0.size : Int)) = false := decide_eq_false c3
  clear c3
  by_cases c4 : 0 ≤ a1
  ·rw [if_pos c4] at H
   have c4b0 := eq_true c4
   have c4b1 : decide (0 ≤ a1) = true := decide_eq_true c4
   clear c4
   by_cases c5 : (a1 : Int).toNat ≤ 281474976710656
   ·rw [if_pos c5] at H
    have c5b0 := eq_true c5
    have c5b1 : decide ((a1 : Int).toNat ≤ 281474976710656) = true := decide_eq_true c5
    clear c5
    obtain ⟨y120, hy120⟩ : ∃ y_ : List Int, y_ = (List.replicate (a1 : Int).toNat 0) := ⟨_, rfl⟩
    replace H : (mudlarkref02_Put.l0 k a0 y120 0) = some (r1, r2) := by first | (rw [hy120]; with_reducible exact H) | (have H2_ := (Option.bind_some _ _).symm.trans H; rw [hy120]; with_reducible exact H2_) | (have H2_ := (Option.bind_some _ _).symm.trans H; with_reducible exact H2_) | with_reducible exact H | (rw [hy120]; exact H) | exact H
    have Ny120 := Aside0.mk hy120
    clear hy120
    have H' := Aside0.mk H
    clear H
    go_enter Tryd.func65, Tryd.ntmps65
    go_wp2_with (first | ((with_reducible refine gate_dst (N := 13) rfl ?_); refine Kd.R_make (Kd.int .u8) _ 5 rfl (N := 13) rfl 22 _ _ rfl a1 rfl rfl Tryd.underlying22 (.int .u8 0) 1 info5 rfl (by decide) (by omega) 0 (ok := fun _ => True) (okp := fun _ => True) rfl (fun _ hk => hk) trivial (of_decide_eq_true (by first | (with_reducible assumption) | assumption)) (Nat.le_trans (Nat.mul_le_mul_right _ (of_decide_eq_true (by first | (with_reducible assumption) | assumption) : a1.toNat ≤ 281474976710656)) (by omega)) (Below.refl _ _) (Nat.le_refl _) ?_; intro v121 w6 ho7 hb hg_ hnew_; clear hg_ hnew_; (first | rw [← Ny120.out] at ho7 | (simp only [Int.reduceToNat] at ho7; rw [← Ny120.out] at ho7)); have n0_ := Aside0.mk (Kd.R_lower ho7 (below_size (by repeat (first | (with_reducible first | exact HB.out | apply below_alloc | apply pw_below_drewN | apply below_drew1) | exact HB.out)))); have n1_ := Aside0.mk (below_step (by repeat (first | (with_reducible first | exact HB.out | apply below_alloc | apply pw_below_drewN | apply below_drew1) | exact HB.out)) hb); clear HB; have HO122 := n0_; have HB := n1_; clear n0_ n1_; clear hb ho7))
    go_loopg [7] k (fun kq v7 w' => ∃ (x6_1 : List Int) (x7_1 : Int), v7 = .int .i64 x7_1 ∧ Aside0 (mudlarkref02_Put.l0 kq a0 x6_1 x7_1 = some (r1, r2)) ∧ Aside0 (kq ≤ k) ∧ Aside0 (Kd.R (Kd.int .u8) 5 w' w.heap.size (fun _ => True) v121 x6_1) ∧ Aside0 (Below w.heap.size w w'))
    case atStart => exact ⟨(y120), (0), (by first | rfl | (simp; done) | (simp [*]; done)), H', ⟨Nat.le_refl _⟩, ⟨by (with_reducible repeat (first | apply Kd.R_alloc | apply Kd.R_drewN | apply Kd.R_drew)); exact HO122.out⟩, ⟨by repeat (first | (with_reducible first | exact HB.out | apply below_alloc | apply pw_below_drewN | apply below_drew1) | exact HB.out)⟩⟩
    case round =>
     clear H'
     try clear p2
     try clear c3
     try clear c3b0
     try clear c4
     try clear c4b0
     try clear c4b1
     try clear c5
     try clear c5b0
     try clear c5b1
     try clear c6
     obtain ⟨x6_1, x7_1, rfl, HA, HK1, HO_6, HB⟩ := hrel
     cases gk with
     | zero => exact absurd HA.out (by simp [mudlarkref02_Put.l0])
     | succ k1 =>
      have H := HA.out
      clear HA
      simp only [mudlarkref02_Put.l0] at H
      by_cases c8 : x7_1 < (a0.size : Int)
      ·rw [if_pos c8] at H
       have c8b0 : decide (x7_1 < (a0.size : Int)) = true := decide_eq_true c8
       clear c8
       by_cases c9 : 0 ≤ x7_1
       ·rw [if_pos c9] at H
        have c9b0 : decide (0 ≤ x7_1) = true := decide_eq_true c9
        clear c9
        by_cases c11 : (bt a0 x7_1) = 0
        ·rw [if_pos c11] at H
         have c11b0 : ((bt a0 x7_1) == 0) = true := beq_iff_eq.mpr c11
         have c11b1 : ((bt a0 x7_1) != 0) = false := bne_eq_false_iff_eq.mpr c11
         clear c11
         simp only [Option.some.injEq, Prod.mk.injEq] at H
         obtain ⟨rfl, rfl⟩ := H
         have p10 : 0 ≤ (x7_1 : Int) := of_decide_eq_true (by first | (with_reducible assumption) | assumption)
         have q10 : x7_1 < (a0.size : Int) := of_decide_eq_true (by first | (with_reducible assumption) | assumption)
         have hx10 := bt_at a0 x7_1
         replace p10 := eq_true p10
         replace q10 := eq_true q10
         go_wp2
         go_ret2
         exact ⟨_, by first | rfl | (simp [errW_none, errW_some] <;> rfl) | (simp [*, errW_none, errW_some] <;> rfl), by first | exact Kd.R_nil _ _ _ _ _ | exact Kd.N_nil _ _ _ _ _ | exact Kd.V_nil _ _ _ _ _ | exact Kd.Q_nil _ _ _ _ _ | exact Kd.S_nil _ _ _ _ _, by repeat (first | (with_reducible first | exact HB.out | apply below_alloc | apply pw_below_drewN | apply below_drew1) | exact HB.out)⟩
        ·rw [if_neg c11] at H
         have c11b0 : ((bt a0 x7_1) == 0) = false := beq_eq_false_iff_ne.mpr c11
         have c11b1 : ((bt a0 x7_1) != 0) = true := bne_iff_ne.mpr c11
         by_cases c13 : x7_1 < (x6_1.length : Int)
         ·rw [if_pos c13] at H
          have c13b0 : decide (x7_1 < (x6_1.length : Int)) = true := decide_eq_true c13
          clear c13
          obtain ⟨y123, hy123⟩ : ∃ y_ : List Int, y_ = (x6_1.set (x7_1 : Int).toNat (bt a0 x7_1)) := ⟨_, rfl⟩
          replace H : (mudlarkref02_Put.l0 k1 a0 y123 (wrap64 (x7_1 + 1))) = some (r1, r2) := by first | (rw [hy123]; with_reducible exact H) | (have H2_ := (Option.bind_some _ _).symm.trans H; rw [hy123]; with_reducible exact H2_) | (have H2_ := (Option.bind_some _ _).symm.trans H; with_reducible exact H2_) | with_reducible exact H | (rw [hy123]; exact H) | exact H
          have Ny123 := Aside0.mk hy123
          clear hy123
          have H' := Aside0.mk H
          clear H
          have p10 : 0 ≤ (x7_1 : Int) := of_decide_eq_true (by first | (with_reducible assumption) | assumption)
          have q10 : x7_1 < (a0.size : Int) := of_decide_eq_true (by first | (with_reducible assumption) | assumption)
          have hx10 := bt_at a0 x7_1
          replace p10 := eq_true p10
          replace q10 := eq_true q10
          have p12 : 0 ≤ (x7_1 : Int) := of_decide_eq_true (by first | (with_reducible assumption) | assumption)
          have q12 : x7_1 < (a0.size : Int) := of_decide_eq_true (by first | (with_reducible assumption) | assumption)
          have hx12 := bt_at a0 x7_1
          replace p12 := eq_true p12
          replace q12 := eq_true q12
          have p14 : 0 ≤ (x7_1 : Int) := of_decide_eq_true (by first | (with_reducible assumption) | assumption)
          have q14 : (x7_1 : Int) < ((x6_1.length : Int) : Int) := of_decide_eq_true (by first | (with_reducible assumption) | assumption)
          obtain ⟨go14, co14, eo14, gb14, gl14, cl14, HG14⟩ := Kd.R_form HO_6.out (by omega)
          (first | cases eo14 | (injection eo14 with ea_ en_ ec_; (first | subst ea_ | (injection ea_ with ea_; subst ea_)); subst ec_; clear en_))
          have GB14 := Aside0.mk gb14
          have GG14 := Aside0.mk HG14
          clear gb14 gl14 HG14
          obtain ⟨hx14_0, hf14_0⟩ := Kd.R_celln 0 HO_6.out (x7_1 : Int) p14 q14
          replace p14 := eq_true p14
          replace q14 := eq_true q14
          have HP15 := Kd.R_putg HO_6.out (x7_1 : Int) (bt a0 x7_1)
          go_wp2_with (first | ((with_reducible refine gate_store (t := 5) (p := 29) rfl ?_); refine store_event (t := 5) (p := 29) (v := ?vo_w16) (w1 := (wr.setCell ⟨go14, (x7_1 : Int).toNat, none⟩ (.int .u8 (bt a0 x7_1)))) ?hg ?ho ?hn ?hr ?_; (case ho => rfl); (case hg => rfl); (case hn => rfl); (case hr => first | (go_simp; done) | (go_simp; rfl)); intro w16 hw; have hg : wr.grownBy w16 (some go14) := (by rw [hw]; exact HP15.2); have hp_ : Kd.R (Kd.int .u8) 5 w16 w.heap.size (fun _ => True) (.slice (some ⟨go14, 0, none⟩) x6_1.length co14) y123 := (by rw [hw, Ny123.out]; exact HP15.1); clear HP15; have n0_ := Aside0.mk (hp_); have n1_ := Aside0.mk ((by rw [hw]; exact below_set (HB.out) GB14.out : Below w.heap.size w w16)); clear HO_6; clear HB; have HO_6 := n0_; have HB := n1_; clear n0_ n1_; clear hg hw hp_))
          go_roundg k1
          case measure => have := HK1.out; omega
          case rel => exact ⟨(y123), (wrap64 (x7_1 + 1)), (by first | rfl | (simp; done) | (simp [*]; done)), H', ⟨by have := HK1.out; omega⟩, ⟨by (with_reducible repeat (first | apply Kd.R_alloc | apply Kd.R_drewN | apply Kd.R_drew)); exact HO_6.out⟩, ⟨by repeat (first | (with_reducible first | exact HB.out | apply below_alloc | apply pw_below_drewN | apply below_drew1) | exact HB.out)⟩⟩
         ·rw [if_neg c13] at H
          exact absurd H (by simp)
       ·rw [if_neg c9] at H
        exact absurd H (by simp)
      ·rw [if_neg c8] at H
       have c8b0 : decide (x7_1 < (a0.size : Int)) = false := decide_eq_false c8
       clear c8
       simp only [Option.some.injEq, Prod.mk.injEq] at H
       obtain ⟨rfl, rfl⟩ := H
       go_wp2
       go_ret2
       exact ⟨_, by first | rfl | (simp [errW_none, errW_some] <;> rfl) | (simp [*, errW_none, errW_some] <;> rfl), by (with_reducible repeat (first | apply Kd.R_alloc | apply Kd.R_drewN | apply Kd.R_drew)); exact HO_6.out, by repeat (first | (with_reducible first | exact HB.out | apply below_alloc | apply pw_below_drewN | apply below_drew1) | exact HB.out)⟩
   ·rw [if_neg c5] at H
    exact absurd H (by simp)
  ·rw [if_neg c4] at H
   exact absurd H (by simp)

/-! ### mudlarkref01_Binary: function 67 -/
mutual
def mudlarkref01_Binary.j0 : Nat → List Int → Bool → Option (Int × Bool)
 | 0, _, _ => none
 | k + 1, x0, x14 => if x14 = true then (some (0, false)) else (if 0 < (x0.length : Int) then (if (wrap64 ((wrap64 (rd x0 0)) - 128)) ≥ 64 then (mudlarkref01_Binary.j1 k x0 (wrap64 ((wrap64 ((wrap64 (rd x0 0)) - 128)) - 128))) else (mudlarkref01_Binary.j1 k x0 (wrap64 ((wrap64 (rd x0 0)) - 128)))) else (none))
def mudlarkref01_Binary.j1 : Nat → List Int → Int → Option (Int × Bool)
 | 0, _, _ => none
 | k + 1, x0, x4 => mudlarkref01_Binary.l0 k x0 x4 1
def mudlarkref01_Binary.l0 : Nat → List Int → Int → Int → Option (Int × Bool)
 | 0, _, _, _ => none
 | k + 1, x0, x4, x5 => if x5 < (x0.length : Int) then (if x4 > 18014398509481984 then (some (0, false)) else (if x4 < (-18014398509481985) then (some (0, false)) else (if 0 ≤ x5 then (mudlarkref01_Binary.l0 k x0 (wrap64 ((wrap64 (256 * x4)) + (wrap64 (rd x0 x5)))) (wrap64 (x5 + 1))) else (none)))) else (if x4 > 4611686018427387904 then (some (0, false)) else (if x4 < (-4611686018427387904) then (some (0, false)) else (some (x4, true))))
end
def mudlarkref01_Binary.f (k : Nat) (l0 : List Int) : Option (Int × Bool) := if (l0.length : Int) = 0 then (mudlarkref01_Binary.j0 k l0 true) else (if 0 < (l0.length : Int) then (mudlarkref01_Binary.j0 k l0 (decide ((rd l0 0) < 128))) else (none))
set_option maxHeartbeats 8000000 in
set_option maxRecDepth 100000 in
theorem mudlarkref01_Binary.calls (k : Nat) (A0 : Option Addr) (c0 : Nat) (l0 : List Int) (r1 : Int) (r2 : Bool) (w : World) (hr0 : Kd.C (Kd.int .u8) w A0 l0.length l0) (hc0 : l0.length ≤ c0) (h : mudlarkref01_Binary.f k l0 = some (r1, r2)) :
  Calls Tryd.prog 67 #[.slice A0 l0.length c0] w fun e w' => e = .returned (.tuple #[.int .i64 r1, .bool r2]) ∧ Drawn0 w w' := by
 have HR0 := Aside0.mk hr0
 have HC0 := Aside0.mk hc0
 clear hr0 hc0
 have H : (if (l0.length : Int) = 0 then (mudlarkref01_Binary.j0 k l0 true) else (if 0 < (l0.length : Int) then (mudlarkref01_Binary.j0 k l0 (decide ((rd l0 0) < 128))) else (none))) = some (r1, r2) := h
 clear h
 have HC2 := Aside0.mk H
 clear H
 go_enter Tryd.func67, Tryd.ntmps67
 go_upto_region 1 with (fail)
 go_cut [14] (fun v14 wc => ∃ (kq : Nat) (x14_1 : Bool), v14 = .bool x14_1 ∧ Aside0 (mudlarkref01_Binary.j0 kq l0 x14_1 = some (r1, r2)) ∧ Aside0 (kq ≤ k) ∧ Drawn0 w wc)
 case first =>
  have H := HC2.out
  clear HC2
  by_cases c3 : (l0.length : Int) = 0
  ·rw [if_pos c3] at H
   have c3b0 : ((l0.length : Int) == 0) = true := beq_iff_eq.mpr c3
   have c3b1 : ((l0.length : Int) != 0) = false := bne_eq_false_iff_eq.mpr c3
   clear c3
   (first | rw [c3b0] | (simp only [i64_w, i32_w]; rw [c3b0]) | skip)
   have H' := Aside0.mk H
   clear H
   go_wp2
   go_meet
   case rel => exact ⟨_, (true), (by first | rfl | (simp; done) | (simp [*]; done)), H', ⟨by first | omega | exact Nat.le_refl _⟩, by repeat (first | exact Drawn0.refl _ | apply Drawn0.step)⟩
  ·rw [if_neg c3] at H
   have c3b0 : ((l0.length : Int) == 0) = false := beq_eq_false_iff_ne.mpr c3
   have c3b1 : ((l0.length : Int) != 0) = true := bne_iff_ne.mpr c3
   have c3b2 : ¬ (l0 = []) := fun h_ => c3 (by rw [h_]; rfl)
   (first | rw [c3b0] | (simp only [i64_w, i32_w]; rw [c3b0]) | skip)
   by_cases c4 : 0 < (l0.length : Int)
   ·rw [if_pos c4] at H
    have c4b0 : decide (0 < (l0.length : Int)) = true := decide_eq_true c4
    have c4b1 : decide (0 < l0.length) = true := decide_eq_true (by omega)
    clear c4
    have H' := Aside0.mk H
    clear H
    have p124 : 0 ≤ (0 : Int) := (by omega)
    have q124 : 0 < (l0.length : Int) := of_decide_eq_true (by first | (with_reducible assumption) | assumption)
    obtain ⟨ad124, e124, hx124_0⟩ := Kd.at_int HR0.out 0 p124 q124
    cases e124
    have qi124 : (0 < l0.length) = True := eq_true (by omega)
    (try rw [show ((0 : Int)).toNat = 0 from rfl] at hx124_0)
    (try rw [Addr.add_zero'] at hx124_0)
    replace p124 := eq_true p124
    replace q124 := eq_true q124
    go_wp2
    go_meet
    case rel => exact ⟨_, (decide ((rd l0 0) < 128)), (by first | rfl | (simp; done) | (simp [*]; done)), H', ⟨by first | omega | exact Nat.le_refl _⟩, by repeat (first | exact Drawn0.refl _ | apply Drawn0.step)⟩
   ·rw [if_neg c4] at H
    exact absurd H (by simp)
 case rest =>
  clear HC2
  try clear p1
  try clear q1
  try clear hx1
  try clear qi1
  try clear p2
  try clear c3
  try clear c3b0
  try clear c3b1
  try clear c3b2
  try clear c4
  try clear c4b0
  try clear c4b1
  try clear hx124_0
  try clear p124
  try clear q124
  obtain ⟨kq, x14_1, rfl, HA, HJ1, ⟨mc1, rfl⟩⟩ := hcut
  cases kq with
  | zero => exact absurd HA.out (by simp [mudlarkref01_Binary.j0])
  | succ kj1 =>
   have H := HA.out
   clear HA
   simp only [mudlarkref01_Binary.j0] at H
   by_cases c5 : x14_1 = true
   ·subst c5
    have H1 : (some (0, false)) = some (r1, r2) := by rw [if_pos rfl] at H; exact H
    clear H
    have H := H1
    clear H1
    simp only [Option.some.injEq, Prod.mk.injEq] at H
    obtain ⟨rfl, rfl⟩ := H
    go_wp2
    go_ret2
    exact ⟨by first | rfl | (simp; done) | (simp [*]; done), by repeat (first | exact Drawn0.refl _ | apply Drawn0.step)⟩
   ·replace c5 := Bool.eq_false_iff.mpr c5
    subst c5
    have H1 : (if 0 < (l0.length : Int) then (if (wrap64 ((wrap64 (rd l0 0)) - 128)) ≥ 64 then (mudlarkref01_Binary.j1 kj1 l0 (wrap64 ((wrap64 ((wrap64 (rd l0 0)) - 128)) - 128))) else (mudlarkref01_Binary.j1 kj1 l0 (wrap64 ((wrap64 (rd l0 0)) - 128)))) else (none)) = some (r1, r2) := by rw [if_neg (show ¬ (false = true) by decide)] at H; exact H
    clear H
    have H := H1
    clear H1
    by_cases c6 : 0 < (l0.length : Int)
    ·rw [if_pos c6] at H
     have c6b0 : decide (0 < (l0.length : Int)) = true := decide_eq_true c6
     have c6b1 : decide (0 < l0.length) = true := decide_eq_true (by omega)
     clear c6
     have HC7 := Aside0.mk H
     clear H
     have p125 : 0 ≤ (0 : Int) := (by omega)
     have q125 : 0 < (l0.length : Int) := of_decide_eq_true (by first | (with_reducible assumption) | assumption)
     obtain ⟨ad125, e125, hx125_0⟩ := Kd.at_int HR0.out 0 p125 q125
     cases e125
     have qi125 : (0 < l0.length) = True := eq_true (by omega)
     (try rw [show ((0 : Int)).toNat = 0 from rfl] at hx125_0)
     (try rw [Addr.add_zero'] at hx125_0)
     replace p125 := eq_true p125
     replace q125 := eq_true q125
     go_upto_if 21 with (fail)
     go_cut [4] (fun v4 wc => ∃ (kq : Nat) (x4_6 : Int), v4 = .int .i64 x4_6 ∧ Aside0 (mudlarkref01_Binary.j1 kq l0 x4_6 = some (r1, r2)) ∧ Aside0 (kq ≤ kj1) ∧ Drawn0 w wc)
     case first =>
      have H := HC7.out
      clear HC7
      by_cases c8 : (wrap64 ((wrap64 (rd l0 0)) - 128)) ≥ 64
      ·rw [if_pos c8] at H
       have c8b0 : decide (64 ≤ (wrap64 ((wrap64 (rd l0 0)) - 128))) = true := decide_eq_true c8
       clear c8
       (first | rw [c8b0] | (simp only [i64_w, i32_w]; rw [c8b0]) | skip)
       have H' := Aside0.mk H
       clear H
       go_wp2
       go_meet
       case rel => exact ⟨_, (wrap64 ((wrap64 ((wrap64 (rd l0 0)) - 128)) - 128)), (by first | rfl | (simp; done) | (simp [*]; done)), H', ⟨by have := HJ1.out; first | omega | exact Nat.le_refl _⟩, by repeat (first | exact Drawn0.refl _ | apply Drawn0.step)⟩
      ·rw [if_neg c8] at H
       have c8b0 : decide (64 ≤ (wrap64 ((wrap64 (rd l0 0)) - 128))) = false := decide_eq_false c8
       clear c8
       (first | rw [c8b0] | (simp only [i64_w, i32_w]; rw [c8b0]) | skip)
       have H' := Aside0.mk H
       clear H
       go_wp2
       go_meet
       case rel => exact ⟨_, (wrap64 ((wrap64 (rd l0 0)) - 128)), (by first | rfl | (simp; done) | (simp [*]; done)), H', ⟨by have := HJ1.out; first | omega | exact Nat.le_refl _⟩, by repeat (first | exact Drawn0.refl _ | apply Drawn0.step)⟩
     case rest =>
      clear HC7
      try clear c1
      try clear p1
      try clear q1
      try clear hx1
      try clear qi1
      try clear p2
      try clear c3
      try clear c3b0
      try clear c3b1
      try clear c3b2
      try clear c4
      try clear c4b0
      try clear c4b1
      try clear c5
      try clear c6
      try clear c6b0
      try clear c6b1
      try clear p6
      try clear c8
      try clear c8b0
      try clear hx124_0
      try clear hx125_0
      try clear p1
      try clear p124
      try clear p125
      try clear p2
      try clear q1
      try clear q124
      try clear q125
      obtain ⟨kq, x4_6, rfl, HA, HJ6, ⟨mc6, rfl⟩⟩ := hcut
      cases kq with
      | zero => exact absurd HA.out (by simp [mudlarkref01_Binary.j1])
      | succ kj6 =>
       have H := HA.out
       clear HA
       simp only [mudlarkref01_Binary.j1] at H
       have H' := Aside0.mk H
       clear H
       go_wp2
       go_loopg [4, 5] kj6 (fun kq v4 v5 w' => ∃ (x4_3 : Int) (x5_3 : Int), v4 = .int .i64 x4_3 ∧ v5 = .int .i64 x5_3 ∧ Aside0 (mudlarkref01_Binary.l0 kq l0 x4_3 x5_3 = some (r1, r2)) ∧ Aside0 (kq ≤ kj6) ∧ Drawn0 w w')
       case atStart => exact ⟨(x4_6), (1), (by first | rfl | (simp; done) | (simp [*]; done)), (by first | rfl | (simp; done) | (simp [*]; done)), H', ⟨Nat.le_refl _⟩, by repeat (first | exact Drawn0.refl _ | apply Drawn0.step)⟩
       case round =>
        clear H'
        try clear c1
        try clear p1
        try clear q1
        try clear hx1
        try clear qi1
        try clear p2
        try clear c3
        try clear c3b0
        try clear c3b1
        try clear c3b2
        try clear c4
        try clear c4b0
        try clear c4b1
        try clear c5
        try clear c6
        try clear c6b0
        try clear c6b1
        try clear p6
        try clear c8
        try clear c8b0
        try clear hx124_0
        try clear hx125_0
        try clear p1
        try clear p124
        try clear p125
        try clear p2
        try clear p6
        try clear q1
        try clear q124
        try clear q125
        obtain ⟨x4_3, x5_3, rfl, rfl, HA, HK3, ⟨m3, rfl⟩⟩ := hrel
        cases gk with
        | zero => exact absurd HA.out (by simp [mudlarkref01_Binary.l0])
        | succ k3 =>
         have H := HA.out
         clear HA
         simp only [mudlarkref01_Binary.l0] at H
         by_cases c9 : x5_3 < (l0.length : Int)
         ·rw [if_pos c9] at H
          have c9b0 : decide (x5_3 < (l0.length : Int)) = true := decide_eq_true c9
          clear c9
          by_cases c10 : x4_3 > 18014398509481984
          ·rw [if_pos c10] at H
           have c10b0 : decide (18014398509481984 < x4_3) = true := decide_eq_true c10
           clear c10
           simp only [Option.some.injEq, Prod.mk.injEq] at H
           obtain ⟨rfl, rfl⟩ := H
           go_wp2
           go_ret2
           exact ⟨by first | rfl | (simp; done) | (simp [*]; done), by repeat (first | exact Drawn0.refl _ | apply Drawn0.step)⟩
          ·rw [if_neg c10] at H
           have c10b0 : decide (18014398509481984 < x4_3) = false := decide_eq_false c10
           clear c10
           by_cases c11 : x4_3 < (-18014398509481985)
           ·rw [if_pos c11] at H
            have c11b0 : decide (x4_3 < (-18014398509481985)) = true := decide_eq_true c11
            clear c11
            simp only [Option.some.injEq, Prod.mk.injEq] at H
            obtain ⟨rfl, rfl⟩ := H
            go_wp2
            go_ret2
            exact ⟨by first | rfl | (simp; done) | (simp [*]; done), by repeat (first | exact Drawn0.refl _ | apply Drawn0.step)⟩
           ·rw [if_neg c11] at H
            have c11b0 : decide (x4_3 < (-18014398509481985)) = false := decide_eq_false c11
            clear c11
            by_cases c12 : 0 ≤ x5_3
            ·rw [if_pos c12] at H
             have c12b0 : decide (0 ≤ x5_3) = true := decide_eq_true c12
             clear c12
             have H' := Aside0.mk H
             clear H
             have p126 : 0 ≤ (x5_3 : Int) := of_decide_eq_true (by first | (with_reducible assumption) | assumption)
             have q126 : x5_3 < (l0.length : Int) := of_decide_eq_true (by first | (with_reducible assumption) | assumption)
             obtain ⟨ad126, e126, hx126_0⟩ := Kd.at_int HR0.out x5_3 p126 q126
             obtain rfl : ad125 = ad126 := (by injection e126)
             replace p126 := eq_true p126
             replace q126 := eq_true q126
             go_wp2
             go_roundg k3
             case measure => have := HJ1.out; have := HJ6.out; have := HK3.out; omega
             case rel => exact ⟨(wrap64 ((wrap64 (256 * x4_3)) + (wrap64 (rd l0 x5_3)))), (wrap64 (x5_3 + 1)), (by first | rfl | (simp; done) | (simp [*]; done)), (by first | rfl | (simp; done) | (simp [*]; done)), H', ⟨by have := HJ1.out; have := HJ6.out; have := HK3.out; omega⟩, by repeat (first | exact Drawn0.refl _ | apply Drawn0.step)⟩
            ·rw [if_neg c12] at H
             exact absurd H (by simp)
         ·rw [if_neg c9] at H
          have c9b0 : decide (x5_3 < (l0.length : Int)) = false := decide_eq_false c9
          clear c9
          by_cases c13 : x4_3 > 4611686018427387904
          ·rw [if_pos c13] at H
           have c13b0 : decide (4611686018427387904 < x4_3) = true := decide_eq_true c13
           clear c13
           simp only [Option.some.injEq, Prod.mk.injEq] at H
           obtain ⟨rfl, rfl⟩ := H
           go_wp2
           go_ret2
           exact ⟨by first | rfl | (simp; done) | (simp [*]; done), by repeat (first | exact Drawn0.refl _ | apply Drawn0.step)⟩
          ·rw [if_neg c13] at H
           have c13b0 : decide (4611686018427387904 < x4_3) = false := decide_eq_false c13
           clear c13
           by_cases c14 : x4_3 < (-4611686018427387904)
           ·rw [if_pos c14] at H
            have c14b0 : decide (x4_3 < (-4611686018427387904)) = true := decide_eq_true c14
            clear c14
            simp only [Option.some.injEq, Prod.mk.injEq] at H
            obtain ⟨rfl, rfl⟩ := H
            go_wp2
            go_ret2
            exact ⟨by first | rfl | (simp; done) | (simp [*]; done), by repeat (first | exact Drawn0.refl _ | apply Drawn0.step)⟩
           ·rw [if_neg c14] at H
            have c14b0 : decide (x4_3 < (-4611686018427387904)) = false := decide_eq_false c14
            clear c14
            simp only [Option.some.injEq, Prod.mk.injEq] at H
            obtain ⟨rfl, rfl⟩ := H
            go_wp2
            go_ret2
            exact ⟨by first | rfl | (simp; done) | (simp [*]; done), by repeat (first | exact Drawn0.refl _ | apply Drawn0.step)⟩
    ·rw [if_neg c6] at H
     exact absurd H (by simp)

/-! ### mudlarkref01_PutBinary: function 79 -/
mutual
def mudlarkref01_PutBinary.j0 : Nat → Int → Int → Bool → Option (List Int × Bool)
 | 0, _, _, _ => none
 | k + 1, x0, x1, x17 => if x17 = true then (some (([] : List Int), false)) else (if 0 ≤ x1 then (if (x1 : Int).toNat ≤ 281474976710656 then (mudlarkref01_PutBinary.l0 k x0 (List.replicate (x1 : Int).toNat 0) x0 (wrap64 (x1 - 1))) else (none)) else (none))
def mudlarkref01_PutBinary.l0 : Nat → Int → List Int → Int → Int → Option (List Int × Bool)
 | 0, _, _, _, _ => none
 | k + 1, x0, x6, x7, x8 => if x8 ≥ 0 then (if (Int.tmod x7 256) < 0 then (if 0 ≤ x8 then (if x8 < (x6.length : Int) then (mudlarkref01_PutBinary.l0 k x0 (x6.set (x8 : Int).toNat ((wrap64 ((Int.tmod x7 256) + 256)) % 256)) (wrap64 (Int.tdiv (wrap64 (x7 - (wrap64 ((Int.tmod x7 256) + 256)))) 256)) (wrap64 (x8 - 1))) else (none)) else (none)) else (if 0 ≤ x8 then (if x8 < (x6.length : Int) then (mudlarkref01_PutBinary.l0 k x0 (x6.set (x8 : Int).toNat ((Int.tmod x7 256) % 256)) (wrap64 (Int.tdiv (wrap64 (x7 - (Int.tmod x7 256))) 256)) (wrap64 (x8 - 1))) else (none)) else (none))) else (if 0 < (x6.length : Int) then ((some (x6.set (0 : Int).toNat (((Int.tmod (rd x6 0) 128) + 128) % 256) : List Int)).bind fun y133 => ((mudlarkref01_Binary.f k y133).bind fun bt134 => (if bt134.2 = true then (if bt134.1 = x0 then (some (y133, true)) else (some (([] : List Int), false))) else (some (([] : List Int), false))))) else (none))
end
def mudlarkref01_PutBinary.f (k : Nat) (a0 : Int) (a1 : Int) : Option (List Int × Bool) := if a1 < 2 then (mudlarkref01_PutBinary.j0 k a0 a1 true) else (mudlarkref01_PutBinary.j0 k a0 a1 (decide (a1 > 32)))
set_option maxHeartbeats 8000000 in
set_option maxRecDepth 100000 in
theorem mudlarkref01_PutBinary.calls (k : Nat) (a0 : Int) (a1 : Int) (r1 : List Int) (r2 : Bool) (w : World) (h : mudlarkref01_PutBinary.f k a0 a1 = some (r1, r2)) :
  Calls Tryd.prog 79 #[.int .i64 a0, .int .i64 a1] w fun e w' => ∃ v0_ : Value, e = .returned (.tuple #[v0_, .bool r2]) ∧ Kd.R (Kd.int .u8) 5 w' w.heap.size (fun _ => True) v0_ r1 ∧ Below w.heap.size w w' := by
 have HB := Aside0.mk (Below.refl w.heap.size w)
 have H : (if a1 < 2 then (mudlarkref01_PutBinary.j0 k a0 a1 true) else (mudlarkref01_PutBinary.j0 k a0 a1 (decide (a1 > 32)))) = some (r1, r2) := h
 clear h
 have HC3 := Aside0.mk H
 clear H
 go_enter Tryd.func79, Tryd.ntmps79
 go_upto_region 1 with (fail)
 go_cut [17] (fun v17 wc => ∃ (kq : Nat) (x17_2 : Bool), v17 = .bool x17_2 ∧ Aside0 (mudlarkref01_PutBinary.j0 kq a0 a1 x17_2 = some (r1, r2)) ∧ Aside0 (kq ≤ k) ∧ Aside0 (Below w.heap.size w wc))
 case first =>
  have H := HC3.out
  clear HC3
  by_cases c4 : a1 < 2
  ·rw [if_pos c4] at H
   have c4b0 : decide (a1 < 2) = true := decide_eq_true c4
   clear c4
   (first | rw [c4b0] | (simp only [i64_w, i32_w]; rw [c4b0]) | skip)
   have H' := Aside0.mk H
   clear H
   go_wp2
   go_meet
   case rel => exact ⟨_, (true), (by first | rfl | (simp; done) | (simp [*]; done)), H', ⟨by first | omega | exact Nat.le_refl _⟩, ⟨by repeat (first | (with_reducible first | exact HB.out | apply below_alloc | apply pw_below_drewN | apply below_drew1) | exact HB.out)⟩⟩
  ·rw [if_neg c4] at H
   have c4b0 : decide (a1 < 2) = false := decide_eq_false c4
   clear c4
   (first | rw [c4b0] | (simp only [i64_w, i32_w]; rw [c4b0]) | skip)
   have H' := Aside0.mk H
   clear H
   go_wp2
   go_meet
   case rel => exact ⟨_, (decide (a1 > 32)), (by first | rfl | (simp; done) | (simp [*]; done)), H', ⟨by first | omega | exact Nat.le_refl _⟩, ⟨by repeat (first | (with_reducible first | exact HB.out | apply below_alloc | apply pw_below_drewN | apply below_drew1) | exact HB.out)⟩⟩
 case rest =>
  clear HC3
  try clear p2
  try clear c4
  try clear c4b0
  obtain ⟨kq, x17_2, rfl, HA, HJ2, HB⟩ := hcut
  cases kq with
  | zero => exact absurd HA.out (by simp [mudlarkref01_PutBinary.j0])
  | succ kj2 =>
   have H := HA.out
   clear HA
   simp only [mudlarkref01_PutBinary.j0] at H
   by_cases c5 : x17_2 = true
   ·subst c5
    have H1 : (some (([] : List Int), false)) = some (r1, r2) := by rw [if_pos rfl] at H; exact H
    clear H
    have H := H1
    clear H1
    simp only [Option.some.injEq, Prod.mk.injEq] at H
    obtain ⟨rfl, rfl⟩ := H
    go_wp2
    go_ret2
    exact ⟨_, by first | rfl | (simp [errW_none, errW_some] <;> rfl) | (simp [*, errW_none, errW_some] <;> rfl), by first | exact Kd.R_nil _ _ _ _ _ | exact Kd.N_nil _ _ _ _ _ | exact Kd.V_nil _ _ _ _ _ | exact Kd.Q_nil _ _ _ _ _ | exact Kd.S_nil _ _ _ _ _, by repeat (first | (with_reducible first | exact HB.out | apply below_alloc | apply pw_below_drewN | apply below_drew1) | exact HB.out)⟩
   ·replace c5 := Bool.eq_false_iff.mpr c5
    subst c5
    have H1 : (if 0 ≤ a1 then (if (a1 : Int).toNat ≤ 281474976710656 then (mudlarkref01_PutBinary.l0 kj2 a0 (List.replicate (a1 : Int).toNat 0) a0 (wrap64 (a1 - 1))) else (none)) else (none)) = some (r1, r2) := by rw [if_neg (show ¬ (false = true) by decide)] at H; exact H
    clear H
    have H := H1
    clear H1
    by_cases c6 : 0 ≤ a1
    ·rw [if_pos c6] at H
     have c6b0 := eq_true c6
     have c6b1 : decide (0 ≤ a1) = true := decide_eq_true c6
     clear c6
     by_cases c7 : (a1 : Int).toNat ≤ 281474976710656
     ·rw [if_pos c7] at H
      have c7b0 := eq_true c7
      have c7b1 : decide ((a1 : Int).toNat ≤ 281474976710656) = true := decide_eq_true c7
      clear c7
      obtain ⟨y127, hy127⟩ : ∃ y_ : List Int, y_ = (List.replicate (a1 : Int).toNat 0) := ⟨_, rfl⟩
      replace H : (mudlarkref01_PutBinary.l0 kj2 a0 y127 a0 (wrap64 (a1 - 1))) = some (r1, r2) := by first | (rw [hy127]; with_reducible exact H) | (have H2_ := (Option.bind_some _ _).symm.trans H; rw [hy127]; with_reducible exact H2_) | (have H2_ := (Option.bind_some _ _).symm.trans H; with_reducible exact H2_) | with_reducible exact H | (rw [hy127]; exact H) | exact H
      have Ny127 := Aside0.mk hy127
      clear hy127
      have H' := Aside0.mk H
      clear H
      go_wp2_with (first | ((with_reducible refine gate_dst (N := 19) rfl ?_); refine Kd.R_make (Kd.int .u8) _ 5 rfl (N := 19) rfl 22 _ _ rfl a1 rfl rfl Tryd.underlying22 (.int .u8 0) 1 info5 rfl (by decide) (by omega) 0 (ok := fun _ => True) (okp := fun _ => True) rfl (fun _ hk => hk) trivial (of_decide_eq_true (by first | (with_reducible assumption) | assumption)) (Nat.le_trans (Nat.mul_le_mul_right _ (of_decide_eq_true (by first | (with_reducible assumption) | assumption) : a1.toNat ≤ 281474976710656)) (by omega)) (Below.refl _ _) (Nat.le_refl _) ?_; intro v128 w8 ho9 hb hg_ hnew_; clear hg_ hnew_; (first | rw [← Ny127.out] at ho9 | (simp only [Int.reduceToNat] at ho9; rw [← Ny127.out] at ho9)); have n0_ := Aside0.mk (Kd.R_lower ho9 (below_size (by repeat (first | (with_reducible first | exact HB.out | apply below_alloc | apply pw_below_drewN | apply below_drew1) | exact HB.out)))); have n1_ := Aside0.mk (below_step (by repeat (first | (with_reducible first | exact HB.out | apply below_alloc | apply pw_below_drewN | apply below_drew1) | exact HB.out)) hb); clear HB; have HO129 := n0_; have HB := n1_; clear n0_ n1_; clear hb ho9))
      go_loopg [7, 8] kj2 (fun kq v7 v8 w' => ∃ (x6_2 : List Int) (x7_2 : Int) (x8_2 : Int), v7 = .int .i64 x7_2 ∧ v8 = .int .i64 x8_2 ∧ Aside0 (mudlarkref01_PutBinary.l0 kq a0 x6_2 x7_2 x8_2 = some (r1, r2)) ∧ Aside0 (kq ≤ kj2) ∧ Aside0 (Kd.R (Kd.int .u8) 5 w' w.heap.size (fun _ => True) v128 x6_2) ∧ Aside0 (Below w.heap.size w w'))
      case atStart => exact ⟨(y127), (a0), (wrap64 (a1 - 1)), (by first | rfl | (simp; done) | (simp [*]; done)), (by first | rfl | (simp; done) | (simp [*]; done)), H', ⟨Nat.le_refl _⟩, ⟨by (with_reducible repeat (first | apply Kd.R_alloc | apply Kd.R_drewN | apply Kd.R_drew)); exact HO129.out⟩, ⟨by repeat (first | (with_reducible first | exact HB.out | apply below_alloc | apply pw_below_drewN | apply below_drew1) | exact HB.out)⟩⟩
      case round =>
       clear H'
       try clear p2
       try clear c4
       try clear c4b0
       try clear c5
       try clear c6
       try clear c6b0
       try clear c6b1
       try clear p6
       try clear c7
       try clear c7b0
       try clear c7b1
       try clear p2
       obtain ⟨x6_2, x7_2, x8_2, rfl, rfl, HA, HK2, HO_6, HB⟩ := hrel
       cases gk with
       | zero => exact absurd HA.out (by simp [mudlarkref01_PutBinary.l0])
       | succ k2 =>
        have H := HA.out
        clear HA
        simp only [mudlarkref01_PutBinary.l0] at H
        by_cases c10 : x8_2 ≥ 0
        ·rw [if_pos c10] at H
         have c10b0 : decide (0 ≤ x8_2) = true := decide_eq_true c10
         clear c10
         by_cases c11 : (Int.tmod x7_2 256) < 0
         ·rw [if_pos c11] at H
          have c11b0 : decide ((Int.tmod x7_2 256) < 0) = true := decide_eq_true c11
          clear c11
          by_cases c12 : 0 ≤ x8_2
          ·rw [if_pos c12] at H
           have c12b0 : decide (0 ≤ x8_2) = true := decide_eq_true c12
           clear c12
           by_cases c13 : x8_2 < (x6_2.length : Int)
           ·rw [if_pos c13] at H
            have c13b0 : decide (x8_2 < (x6_2.length : Int)) = true := decide_eq_true c13
            clear c13
            obtain ⟨y130, hy130⟩ : ∃ y_ : List Int, y_ = (x6_2.set (x8_2 : Int).toNat ((wrap64 ((Int.tmod x7_2 256) + 256)) % 256)) := ⟨_, rfl⟩
            replace H : (mudlarkref01_PutBinary.l0 k2 a0 y130 (wrap64 (Int.tdiv (wrap64 (x7_2 - (wrap64 ((Int.tmod x7_2 256) + 256)))) 256)) (wrap64 (x8_2 - 1))) = some (r1, r2) := by first | (rw [hy130]; with_reducible exact H) | (have H2_ := (Option.bind_some _ _).symm.trans H; rw [hy130]; with_reducible exact H2_) | (have H2_ := (Option.bind_some _ _).symm.trans H; with_reducible exact H2_) | with_reducible exact H | (rw [hy130]; exact H) | exact H
            have Ny130 := Aside0.mk hy130
            clear hy130
            have H' := Aside0.mk H
            clear H
            have p14 : 0 ≤ (x8_2 : Int) := of_decide_eq_true (by first | (with_reducible assumption) | assumption)
            have q14 : (x8_2 : Int) < ((x6_2.length : Int) : Int) := of_decide_eq_true (by first | (with_reducible assumption) | assumption)
            obtain ⟨go14, co14, eo14, gb14, gl14, cl14, HG14⟩ := Kd.R_form HO_6.out (by omega)
            (first | cases eo14 | (injection eo14 with ea_ en_ ec_; (first | subst ea_ | (injection ea_ with ea_; subst ea_)); subst ec_; clear en_))
            have GB14 := Aside0.mk gb14
            have GG14 := Aside0.mk HG14
            clear gb14 gl14 HG14
            obtain ⟨hx14_0, hf14_0⟩ := Kd.R_celln 0 HO_6.out (x8_2 : Int) p14 q14
            replace p14 := eq_true p14
            replace q14 := eq_true q14
            have HP15 := Kd.R_putg HO_6.out (x8_2 : Int) ((wrap64 ((Int.tmod x7_2 256) + 256)) % 256)
            go_wp2_with (first | ((with_reducible refine gate_store (t := 5) (p := 37) rfl ?_); refine store_event (t := 5) (p := 37) (v := ?vo_w16) (w1 := (wr.setCell ⟨go14, (x8_2 : Int).toNat, none⟩ (.int .u8 ((wrap64 ((Int.tmod x7_2 256) + 256)) % 256)))) ?hg ?ho ?hn ?hr ?_; (case ho => rfl); (case hg => rfl); (case hn => rfl); (case hr => first | (go_simp; done) | (go_simp; rfl)); intro w16 hw; have hg : wr.grownBy w16 (some go14) := (by rw [hw]; exact HP15.2); have hp_ : Kd.R (Kd.int .u8) 5 w16 w.heap.size (fun _ => True) (.slice (some ⟨go14, 0, none⟩) x6_2.length co14) y130 := (by rw [hw, Ny130.out]; exact HP15.1); clear HP15; have n0_ := Aside0.mk (hp_); have n1_ := Aside0.mk ((by rw [hw]; exact below_set (HB.out) GB14.out : Below w.heap.size w w16)); clear HO_6; clear HB; have HO_6 := n0_; have HB := n1_; clear n0_ n1_; clear hg hw hp_))
            go_roundg k2
            case measure => have := HJ2.out; have := HK2.out; omega
            case rel => exact ⟨(y130), (wrap64 (Int.tdiv (wrap64 (x7_2 - (wrap64 ((Int.tmod x7_2 256) + 256)))) 256)), (wrap64 (x8_2 - 1)), (by first | rfl | (simp; done) | (simp [*]; done)), (by first | rfl | (simp; done) | (simp [*]; done)), H', ⟨by have := HJ2.out; have := HK2.out; omega⟩, ⟨by (with_reducible repeat (first | apply Kd.R_alloc | apply Kd.R_drewN | apply Kd.R_drew)); exact HO_6.out⟩, ⟨by repeat (first | (with_reducible first | exact HB.out | apply below_alloc | apply pw_below_drewN | apply below_drew1) | exact HB.out)⟩⟩
           ·rw [if_neg c13] at H
            exact absurd H (by simp)
          ·rw [if_neg c12] at H
           exact absurd H (by simp)
         ·rw [if_neg c11] at H
          have c11b0 : decide ((Int.tmod x7_2 256) < 0) = false := decide_eq_false c11
          clear c11
          by_cases c17 : 0 ≤ x8_2
          ·rw [if_pos c17] at H
           have c17b0 : decide (0 ≤ x8_2) = true := decide_eq_true c17
           clear c17
           by_cases c18 : x8_2 < (x6_2.length : Int)
           ·rw [if_pos c18] at H
            have c18b0 : decide (x8_2 < (x6_2.length : Int)) = true := decide_eq_true c18
            clear c18
            obtain ⟨y131, hy131⟩ : ∃ y_ : List Int, y_ = (x6_2.set (x8_2 : Int).toNat ((Int.tmod x7_2 256) % 256)) := ⟨_, rfl⟩
            replace H : (mudlarkref01_PutBinary.l0 k2 a0 y131 (wrap64 (Int.tdiv (wrap64 (x7_2 - (Int.tmod x7_2 256))) 256)) (wrap64 (x8_2 - 1))) = some (r1, r2) := by first | (rw [hy131]; with_reducible exact H) | (have H2_ := (Option.bind_some _ _).symm.trans H; rw [hy131]; with_reducible exact H2_) | (have H2_ := (Option.bind_some _ _).symm.trans H; with_reducible exact H2_) | with_reducible exact H | (rw [hy131]; exact H) | exact H
            have Ny131 := Aside0.mk hy131
            clear hy131
            have H' := Aside0.mk H
            clear H
            have p19 : 0 ≤ (x8_2 : Int) := of_decide_eq_true (by first | (with_reducible assumption) | assumption)
            have q19 : (x8_2 : Int) < ((x6_2.length : Int) : Int) := of_decide_eq_true (by first | (with_reducible assumption) | assumption)
            obtain ⟨go19, co19, eo19, gb19, gl19, cl19, HG19⟩ := Kd.R_form HO_6.out (by omega)
            (first | cases eo19 | (injection eo19 with ea_ en_ ec_; (first | subst ea_ | (injection ea_ with ea_; subst ea_)); subst ec_; clear en_))
            have GB19 := Aside0.mk gb19
            have GG19 := Aside0.mk HG19
            clear gb19 gl19 HG19
            obtain ⟨hx19_0, hf19_0⟩ := Kd.R_celln 0 HO_6.out (x8_2 : Int) p19 q19
            replace p19 := eq_true p19
            replace q19 := eq_true q19
            have HP20 := Kd.R_putg HO_6.out (x8_2 : Int) ((Int.tmod x7_2 256) % 256)
            go_wp2_with (first | ((with_reducible refine gate_store (t := 5) (p := 37) rfl ?_); refine store_event (t := 5) (p := 37) (v := ?vo_w21) (w1 := (wr.setCell ⟨go19, (x8_2 : Int).toNat, none⟩ (.int .u8 ((Int.tmod x7_2 256) % 256)))) ?hg ?ho ?hn ?hr ?_; (case ho => rfl); (case hg => rfl); (case hn => rfl); (case hr => first | (go_simp; done) | (go_simp; rfl)); intro w21 hw; have hg : wr.grownBy w21 (some go19) := (by rw [hw]; exact HP20.2); have hp_ : Kd.R (Kd.int .u8) 5 w21 w.heap.size (fun _ => True) (.slice (some ⟨go19, 0, none⟩) x6_2.length co19) y131 := (by rw [hw, Ny131.out]; exact HP20.1); clear HP20; have n0_ := Aside0.mk (hp_); have n1_ := Aside0.mk ((by rw [hw]; exact below_set (HB.out) GB19.out : Below w.heap.size w w21)); clear HO_6; clear HB; have HO_6 := n0_; have HB := n1_; clear n0_ n1_; clear hg hw hp_))
            go_roundg k2
            case measure => have := HJ2.out; have := HK2.out; omega
            case rel => exact ⟨(y131), (wrap64 (Int.tdiv (wrap64 (x7_2 - (Int.tmod x7_2 256))) 256)), (wrap64 (x8_2 - 1)), (by first | rfl | (simp; done) | (simp [*]; done)), (by first | rfl | (simp; done) | (simp [*]; done)), H', ⟨by have := HJ2.out; have := HK2.out; omega⟩, ⟨by (with_reducible repeat (first | apply Kd.R_alloc | apply Kd.R_drewN | apply Kd.R_drew)); exact HO_6.out⟩, ⟨by repeat (first | (with_reducible first | exact HB.out | apply below_alloc | apply pw_below_drewN | apply below_drew1) | exact HB.out)⟩⟩
           ·rw [if_neg c18] at H
            exact absurd H (by simp)
          ·rw [if_neg c17] at H
           exact absurd H (by simp)
        ·rw [if_neg c10] at H
         have c10b0 : decide (0 ≤ x8_2) = false := decide_eq_false c10
         clear c10
         by_cases c22 : 0 < (x6_2.length : Int)
         ·rw [if_pos c22] at H
          have c22b0 : decide (0 < (x6_2.length : Int)) = true := decide_eq_true c22
          have c22b1 : decide (0 < x6_2.length) = true := decide_eq_true (by omega)
          clear c22
          obtain ⟨y133, hy133⟩ : ∃ y_ : List Int, y_ = (x6_2.set (0 : Int).toNat (((Int.tmod (rd x6_2 0) 128) + 128) % 256)) := ⟨_, rfl⟩
          replace H : ((mudlarkref01_Binary.f k2 y133).bind fun bt134 => (if bt134.2 = true then (if bt134.1 = a0 then (some (y133, true)) else (some (([] : List Int), false))) else (some (([] : List Int), false)))) = some (r1, r2) := by first | (rw [hy133]; with_reducible exact H) | (have H2_ := (Option.bind_some _ _).symm.trans H; rw [hy133]; with_reducible exact H2_) | (have H2_ := (Option.bind_some _ _).symm.trans H; with_reducible exact H2_) | with_reducible exact H | (rw [hy133]; exact H) | exact H
          have Ny133 := Aside0.mk hy133
          clear hy133
          replace H := Option.bind_eq_some_iff.mp H
          obtain ⟨⟨t134, t135⟩, A240, H⟩ := H
          replace H : (if t135 = true then (if t134 = a0 then (some (y133, true)) else (some (([] : List Int), false))) else (some (([] : List Int), false))) = some (r1, r2) := H
          have A24 := Aside0.mk A240
          clear A240
          by_cases c25 : t135 = true
          ·subst c25
           have H1 : (if t134 = a0 then (some (y133, true)) else (some (([] : List Int), false))) = some (r1, r2) := by rw [if_pos rfl] at H; exact H
           clear H
           have H := H1
           clear H1
           by_cases c26 : t134 = a0
           ·rw [if_pos c26] at H
            have c26b0 : (t134 == a0) = true := beq_iff_eq.mpr c26
            have c26b1 : (t134 != a0) = false := bne_eq_false_iff_eq.mpr c26
            clear c26
            simp only [Option.some.injEq, Prod.mk.injEq] at H
            obtain ⟨rfl, rfl⟩ := H
            obtain ⟨Ao27, co27, eo27⟩ := Kd.R_slice HO_6.out
            subst eo27
            have p132 : 0 ≤ (0 : Int) := (by omega)
            have q132 : 0 < (x6_2.length : Int) := of_decide_eq_true (by first | (with_reducible assumption) | assumption)
            obtain ⟨ad132, e132, hx132_0⟩ := Kd.at_int (Kd.R_reads' HO_6.out).2.2 0 p132 q132
            cases e132
            have qi132 : (0 < x6_2.length) = True := eq_true (by omega)
            (try rw [show ((0 : Int)).toNat = 0 from rfl] at hx132_0)
            (try rw [Addr.add_zero'] at hx132_0)
            replace p132 := eq_true p132
            replace q132 := eq_true q132
            have p23 : 0 ≤ (0 : Int) := (by omega)
            have q23 : (0 : Int) < ((x6_2.length : Int) : Int) := of_decide_eq_true (by first | (with_reducible assumption) | assumption)
            have qi23 : (0 < x6_2.length) = True := eq_true (by omega)
            obtain ⟨go23, co23, eo23, gb23, gl23, cl23, HG23⟩ := Kd.R_form HO_6.out (by omega)
            (first | cases eo23 | (injection eo23 with ea_ en_ ec_; (first | subst ea_ | (injection ea_ with ea_; subst ea_)); subst ec_; clear en_))
            have GB23 := Aside0.mk gb23
            have GG23 := Aside0.mk HG23
            clear gb23 gl23 HG23
            (first | simp only [add_plain] at hx132_0 | skip)
            obtain ⟨hx23_0, hf23_0⟩ := Kd.R_celln 0 HO_6.out (0 : Int) p23 q23
            (try rw [show ((0 : Int)).toNat = 0 from rfl] at hx23_0)
            (try simp only [Nat.reduceMul, Nat.zero_mul, Nat.zero_add, Nat.reduceAdd] at hx23_0)
            (try rw [show ((0 : Int)).toNat = 0 from rfl] at hf23_0)
            (try simp only [Nat.reduceMul, Nat.zero_mul, Nat.zero_add, Nat.reduceAdd] at hf23_0)
            replace p23 := eq_true p23
            replace q23 := eq_true q23
            have HP28 := Kd.R_putg HO_6.out (0 : Int) (((Int.tmod (rd x6_2 0) 128) + 128) % 256)
            go_wp2_with (first | ((with_reducible refine gate_store (t := 5) (p := 48) rfl ?_); refine store_event (t := 5) (p := 48) (v := ?vo_w29) (w1 := (wr.setCell ⟨go23, (0 : Int).toNat, none⟩ (.int .u8 (((Int.tmod (rd x6_2 0) 128) + 128) % 256)))) ?hg ?ho ?hn ?hr ?_; (case ho => rfl); (case hg => rfl); (case hn => rfl); (case hr => first | (go_simp; done) | (go_simp; rfl)); intro w29 hw; have hg : wr.grownBy w29 (some go23) := (by rw [hw]; exact HP28.2); have hp_ : Kd.R (Kd.int .u8) 5 w29 w.heap.size (fun _ => True) (.slice (some ⟨go23, 0, none⟩) x6_2.length co27) y133 := (by rw [hw, Ny133.out]; exact HP28.1); clear HP28; have n0_ := Aside0.mk (hp_); have n1_ := Aside0.mk ((by rw [hw]; exact below_set (HB.out) GB23.out : Below w.heap.size w w29)); clear HO_6; clear HB; have HO_6 := n0_; have HB := n1_; clear n0_ n1_; clear hg hw hp_) | ((with_reducible refine gate_callee (f := 67) rfl ?_); refine goesL_ (some 51) rfl rfl Tryd.func67 (by kernel_rfl) rfl #[.slice (some ⟨go23, 0, none⟩) y133.length co27] rfl (by (try simp only [List.map_toArray, List.map_cons, List.map_nil]); first | done | (rw [show y133.length = x6_2.length from (Kd.R_reads' HO_6.out).1.symm] <;> rfl) | rfl | (simp only [List.length_drop, List.length_take]; rfl)) ?_; (with_reducible refine (mudlarkref01_Binary.calls k2 _ _ y133 t134 true _ ?side1 ?side2 A24.out).mono ?_); (case side1 => repeat (first | exact (Kd.R_reads' HO_6.out).2.2 | (with_reducible refine Kd.C_alloc ?_ _) | (with_reducible refine Kd.C_drewN ?_ _) | (with_reducible refine Kd.C_drew ?_))); (case side2 => rw [show y133.length = x6_2.length from (Kd.R_reads' HO_6.out).1.symm]; exact (Kd.R_reads' HO_6.out).2.1); rintro e w' ⟨rfl, ⟨nd, rfl⟩⟩; refine ⟨_, rfl, ?_⟩))
            go_ret2
            exact ⟨_, by first | rfl | (simp [errW_none, errW_some] <;> rfl) | (simp [*, errW_none, errW_some] <;> rfl), by (with_reducible repeat (first | apply Kd.R_alloc | apply Kd.R_drewN | apply Kd.R_drew)); exact HO_6.out, by repeat (first | (with_reducible first | exact HB.out | apply below_alloc | apply pw_below_drewN | apply below_drew1) | exact HB.out)⟩
           ·rw [if_neg c26] at H
            have c26b0 : (t134 == a0) = false := beq_eq_false_iff_ne.mpr c26
            have c26b1 : (t134 != a0) = true := bne_iff_ne.mpr c26
            simp only [Option.some.injEq, Prod.mk.injEq] at H
            obtain ⟨rfl, rfl⟩ := H
            obtain ⟨Ao30, co30, eo30⟩ := Kd.R_slice HO_6.out
            subst eo30
            have p132 : 0 ≤ (0 : Int) := (by omega)
            have q132 : 0 < (x6_2.length : Int) := of_decide_eq_true (by first | (with_reducible assumption) | assumption)
            obtain ⟨ad132, e132, hx132_0⟩ := Kd.at_int (Kd.R_reads' HO_6.out).2.2 0 p132 q132
            cases e132
            have qi132 : (0 < x6_2.length) = True := eq_true (by omega)
            (try rw [show ((0 : Int)).toNat = 0 from rfl] at hx132_0)
            (try rw [Addr.add_zero'] at hx132_0)
            replace p132 := eq_true p132
            replace q132 := eq_true q132
            have p23 : 0 ≤ (0 : Int) := (by omega)
            have q23 : (0 : Int) < ((x6_2.length : Int) : Int) := of_decide_eq_true (by first | (with_reducible assumption) | assumption)
            have qi23 : (0 < x6_2.length) = True := eq_true (by omega)
            obtain ⟨go23, co23, eo23, gb23, gl23, cl23, HG23⟩ := Kd.R_form HO_6.out (by omega)
            (first | cases eo23 | (injection eo23 with ea_ en_ ec_; (first | subst ea_ | (injection ea_ with ea_; subst ea_)); subst ec_; clear en_))
            have GB23 := Aside0.mk gb23
            have GG23 := Aside0.mk HG23
            clear gb23 gl23 HG23
            (first | simp only [add_plain] at hx132_0 | skip)
            obtain ⟨hx23_0, hf23_0⟩ := Kd.R_celln 0 HO_6.out (0 : Int) p23 q23
            (try rw [show ((0 : Int)).toNat = 0 from rfl] at hx23_0)
            (try simp only [Nat.reduceMul, Nat.zero_mul, Nat.zero_add, Nat.reduceAdd] at hx23_0)
            (try rw [show ((0 : Int)).toNat = 0 from rfl] at hf23_0)
            (try simp only [Nat.reduceMul, Nat.zero_mul, Nat.zero_add, Nat.reduceAdd] at hf23_0)
            replace p23 := eq_true p23
            replace q23 := eq_true q23
            have HP31 := Kd.R_putg HO_6.out (0 : Int) (((Int.tmod (rd x6_2 0) 128) + 128) % 256)
            go_wp2_with (first | ((with_reducible refine gate_store (t := 5) (p := 48) rfl ?_); refine store_event (t := 5) (p := 48) (v := ?vo_w32) (w1 := (wr.setCell ⟨go23, (0 : Int).toNat, none⟩ (.int .u8 (((Int.tmod (rd x6_2 0) 128) + 128) % 256)))) ?hg ?ho ?hn ?hr ?_; (case ho => rfl); (case hg => rfl); (case hn => rfl); (case hr => first | (go_simp; done) | (go_simp; rfl)); intro w32 hw; have hg : wr.grownBy w32 (some go23) := (by rw [hw]; exact HP31.2); have hp_ : Kd.R (Kd.int .u8) 5 w32 w.heap.size (fun _ => True) (.slice (some ⟨go23, 0, none⟩) x6_2.length co30) y133 := (by rw [hw, Ny133.out]; exact HP31.1); clear HP31; have n0_ := Aside0.mk (hp_); have n1_ := Aside0.mk ((by rw [hw]; exact below_set (HB.out) GB23.out : Below w.heap.size w w32)); clear HO_6; clear HB; have HO_6 := n0_; have HB := n1_; clear n0_ n1_; clear hg hw hp_) | ((with_reducible refine gate_callee (f := 67) rfl ?_); refine goesL_ (some 51) rfl rfl Tryd.func67 (by kernel_rfl) rfl #[.slice (some ⟨go23, 0, none⟩) y133.length co30] rfl (by (try simp only [List.map_toArray, List.map_cons, List.map_nil]); first | done | (rw [show y133.length = x6_2.length from (Kd.R_reads' HO_6.out).1.symm] <;> rfl) | rfl | (simp only [List.length_drop, List.length_take]; rfl)) ?_; (with_reducible refine (mudlarkref01_Binary.calls k2 _ _ y133 t134 true _ ?side1 ?side2 A24.out).mono ?_); (case side1 => repeat (first | exact (Kd.R_reads' HO_6.out).2.2 | (with_reducible refine Kd.C_alloc ?_ _) | (with_reducible refine Kd.C_drewN ?_ _) | (with_reducible refine Kd.C_drew ?_))); (case side2 => rw [show y133.length = x6_2.length from (Kd.R_reads' HO_6.out).1.symm]; exact (Kd.R_reads' HO_6.out).2.1); rintro e w' ⟨rfl, ⟨nd, rfl⟩⟩; refine ⟨_, rfl, ?_⟩))
            go_ret2
            exact ⟨_, by first | rfl | (simp [errW_none, errW_some] <;> rfl) | (simp [*, errW_none, errW_some] <;> rfl), by first | exact Kd.R_nil _ _ _ _ _ | exact Kd.N_nil _ _ _ _ _ | exact Kd.V_nil _ _ _ _ _ | exact Kd.Q_nil _ _ _ _ _ | exact Kd.S_nil _ _ _ _ _, by repeat (first | (with_reducible first | exact HB.out | apply below_alloc | apply pw_below_drewN | apply below_drew1) | exact HB.out)⟩
          ·replace c25 := Bool.eq_false_iff.mpr c25
           subst c25
           have H1 : (some (([] : List Int), false)) = some (r1, r2) := by rw [if_neg (show ¬ (false = true) by decide)] at H; exact H
           clear H
           have H := H1
           clear H1
           simp only [Option.some.injEq, Prod.mk.injEq] at H
           obtain ⟨rfl, rfl⟩ := H
           obtain ⟨Ao33, co33, eo33⟩ := Kd.R_slice HO_6.out
           subst eo33
           have p132 : 0 ≤ (0 : Int) := (by omega)
           have q132 : 0 < (x6_2.length : Int) := of_decide_eq_true (by first | (with_reducible assumption) | assumption)
           obtain ⟨ad132, e132, hx132_0⟩ := Kd.at_int (Kd.R_reads' HO_6.out).2.2 0 p132 q132
           cases e132
           have qi132 : (0 < x6_2.length) = True := eq_true (by omega)
           (try rw [show ((0 : Int)).toNat = 0 from rfl] at hx132_0)
           (try rw [Addr.add_zero'] at hx132_0)
           replace p132 := eq_true p132
           replace q132 := eq_true q132
           have p23 : 0 ≤ (0 : Int) := (by omega)
           have q23 : (0 : Int) < ((x6_2.length : Int) : Int) := of_decide_eq_true (by first | (with_reducible assumption) | assumption)
           have qi23 : (0 < x6_2.length) = True := eq_true (by omega)
           obtain ⟨go23, co23, eo23, gb23, gl23, cl23, HG23⟩ := Kd.R_form HO_6.out (by omega)
           (first | cases eo23 | (injection eo23 with ea_ en_ ec_; (first | subst ea_ | (injection ea_ with ea_; subst ea_)); subst ec_; clear en_))
           have GB23 := Aside0.mk gb23
           have GG23 := Aside0.mk HG23
           clear gb23 gl23 HG23
           (first | simp only [add_plain] at hx132_0 | skip)
           obtain ⟨hx23_0, hf23_0⟩ := Kd.R_celln 0 HO_6.out (0 : Int) p23 q23
           (try rw [show ((0 : Int)).toNat = 0 from rfl] at hx23_0)
           (try simp only [Nat.reduceMul, Nat.zero_mul, Nat.zero_add, Nat.reduceAdd] at hx23_0)
           (try rw [show ((0 : Int)).toNat = 0 from rfl] at hf23_0)
           (try simp only [Nat.reduceMul, Nat.zero_mul, Nat.zero_add, Nat.reduceAdd] at hf23_0)
           replace p23 := eq_true p23
           replace q23 := eq_true q23
           have HP34 := Kd.R_putg HO_6.out (0 : Int) (((Int.tmod (rd x6_2 0) 128) + 128) % 256)
           go_wp2_with (first | ((with_reducible refine gate_store (t := 5) (p := 48) rfl ?_); refine store_event (t := 5) (p := 48) (v := ?vo_w35) (w1 := (wr.setCell ⟨go23, (0 : Int).toNat, none⟩ (.int .u8 (((Int.tmod (rd x6_2 0) 128) + 128) % 256)))) ?hg ?ho ?hn ?hr ?_; (case ho => rfl); (case hg => rfl); (case hn => rfl); (case hr => first | (go_simp; done) | (go_simp; rfl)); intro w35 hw; have hg : wr.grownBy w35 (some go23) := (by rw [hw]; exact HP34.2); have hp_ : Kd.R (Kd.int .u8) 5 w35 w.heap.size (fun _ => True) (.slice (some ⟨go23, 0, none⟩) x6_2.length co33) y133 := (by rw [hw, Ny133.out]; exact HP34.1); clear HP34; have n0_ := Aside0.mk (hp_); have n1_ := Aside0.mk ((by rw [hw]; exact below_set (HB.out) GB23.out : Below w.heap.size w w35)); clear HO_6; clear HB; have HO_6 := n0_; have HB := n1_; clear n0_ n1_; clear hg hw hp_) | ((with_reducible refine gate_callee (f := 67) rfl ?_); refine goesL_ (some 51) rfl rfl Tryd.func67 (by kernel_rfl) rfl #[.slice (some ⟨go23, 0, none⟩) y133.length co33] rfl (by (try simp only [List.map_toArray, List.map_cons, List.map_nil]); first | done | (rw [show y133.length = x6_2.length from (Kd.R_reads' HO_6.out).1.symm] <;> rfl) | rfl | (simp only [List.length_drop, List.length_take]; rfl)) ?_; (with_reducible refine (mudlarkref01_Binary.calls k2 _ _ y133 t134 false _ ?side1 ?side2 A24.out).mono ?_); (case side1 => repeat (first | exact (Kd.R_reads' HO_6.out).2.2 | (with_reducible refine Kd.C_alloc ?_ _) | (with_reducible refine Kd.C_drewN ?_ _) | (with_reducible refine Kd.C_drew ?_))); (case side2 => rw [show y133.length = x6_2.length from (Kd.R_reads' HO_6.out).1.symm]; exact (Kd.R_reads' HO_6.out).2.1); rintro e w' ⟨rfl, ⟨nd, rfl⟩⟩; refine ⟨_, rfl, ?_⟩))
           go_ret2
           exact ⟨_, by first | rfl | (simp [errW_none, errW_some] <;> rfl) | (simp [*, errW_none, errW_some] <;> rfl), by first | exact Kd.R_nil _ _ _ _ _ | exact Kd.N_nil _ _ _ _ _ | exact Kd.V_nil _ _ _ _ _ | exact Kd.Q_nil _ _ _ _ _ | exact Kd.S_nil _ _ _ _ _, by repeat (first | (with_reducible first | exact HB.out | apply below_alloc | apply pw_below_drewN | apply below_drew1) | exact HB.out)⟩
         ·rw [if_neg c22] at H
          exact absurd H (by simp)
     ·rw [if_neg c7] at H
      exact absurd H (by simp)
    ·rw [if_neg c6] at H
     exact absurd H (by simp)

/-! ### mudlarkref01_Put: function 66 -/
def mudlarkref01_Put.f (k : Nat) (a0 : Int) (a1 : Int) : Option (List Int × Bool) := (mudlarkref01_PutOctal.f k a0 a1).bind fun bt136 => (if bt136.2 = true then (some (bt136.1, true)) else ((mudlarkref01_PutBinary.f k a0 a1).bind fun bt140 => (some (bt140.1, bt140.2))))
set_option maxHeartbeats 8000000 in
set_option maxRecDepth 100000 in
theorem mudlarkref01_Put.calls (k : Nat) (a0 : Int) (a1 : Int) (r1 : List Int) (r2 : Bool) (w : World) (h : mudlarkref01_Put.f k a0 a1 = some (r1, r2)) :
  Calls Tryd.prog 66 #[.int .i64 a0, .int .i64 a1] w fun e w' => ∃ v0_ : Value, e = .returned (.tuple #[v0_, .bool r2]) ∧ Kd.R (Kd.int .u8) 5 w' w.heap.size (fun _ => True) v0_ r1 ∧ Below w.heap.size w w' := by
 have HB := Aside0.mk (Below.refl w.heap.size w)
 have H : ((mudlarkref01_PutOctal.f k a0 a1).bind fun bt136 => (if bt136.2 = true then (some (bt136.1, true)) else ((mudlarkref01_PutBinary.f k a0 a1).bind fun bt140 => (some (bt140.1, bt140.2))))) = some (r1, r2) := h
 clear h
 replace H := Option.bind_eq_some_iff.mp H
 obtain ⟨⟨t136, t137⟩, A30, H⟩ := H
 replace H : (if t137 = true then (some (t136, true)) else ((mudlarkref01_PutBinary.f k a0 a1).bind fun bt140 => (some (bt140.1, bt140.2)))) = some (r1, r2) := H
 have A3 := Aside0.mk A30
 clear A30
 by_cases c4 : t137 = true
 ·subst c4
  have H1 : (some (t136, true)) = some (r1, r2) := by rw [if_pos rfl] at H; exact H
  clear H
  have H := H1
  clear H1
  simp only [Option.some.injEq, Prod.mk.injEq] at H
  obtain ⟨rfl, rfl⟩ := H
  go_enter Tryd.func66, Tryd.ntmps66
  go_wp2_with (first | ((with_reducible refine gate_callee (f := 52) rfl ?_); refine goesL_ (some 11) rfl rfl Tryd.func52 (by kernel_rfl) rfl #[.int .i64 a0, .int .i64 a1] rfl (by (try simp only [List.map_toArray, List.map_cons, List.map_nil]); first | done | rfl | (simp only [List.length_drop, List.length_take]; rfl)) ?_; (with_reducible refine (mudlarkref01_PutOctal.calls k a0 a1 t136 true _ A3.out).mono ?_); rintro e w5 ⟨v138, rfl, ho0, hb⟩; refine ⟨_, rfl, ?_⟩; have n0_ := Aside0.mk (Kd.R_lower ho0 (below_size (by repeat (first | (with_reducible first | exact HB.out | apply below_alloc | apply pw_below_drewN | apply below_drew1) | exact HB.out)))); have n1_ := Aside0.mk (below_step (by repeat (first | (with_reducible first | exact HB.out | apply below_alloc | apply pw_below_drewN | apply below_drew1) | exact HB.out)) hb); clear HB; have HO139 := n0_; have HB := n1_; clear n0_ n1_; (try clear hb); (try clear hb2); (try clear hk); (try clear hi); (try clear ho0)))
  go_ret2
  exact ⟨_, by first | rfl | (simp [errW_none, errW_some] <;> rfl) | (simp [*, errW_none, errW_some] <;> rfl), by (with_reducible repeat (first | apply Kd.R_alloc | apply Kd.R_drewN | apply Kd.R_drew)); exact HO139.out, by repeat (first | (with_reducible first | exact HB.out | apply below_alloc | apply pw_below_drewN | apply below_drew1) | exact HB.out)⟩
 ·replace c4 := Bool.eq_false_iff.mpr c4
  subst c4
  have H1 : ((mudlarkref01_PutBinary.f k a0 a1).bind fun bt140 => (some (bt140.1, bt140.2))) = some (r1, r2) := by rw [if_neg (show ¬ (false = true) by decide)] at H; exact H
  clear H
  have H := H1
  clear H1
  replace H := Option.bind_eq_some_iff.mp H
  obtain ⟨⟨t140, t141⟩, A60, H⟩ := H
  replace H : (some (t140, t141)) = some (r1, r2) := H
  have A6 := Aside0.mk A60
  clear A60
  simp only [Option.some.injEq, Prod.mk.injEq] at H
  obtain ⟨rfl, rfl⟩ := H
  go_enter Tryd.func66, Tryd.ntmps66
  go_wp2_with (first | ((with_reducible refine gate_callee (f := 52) rfl ?_); refine goesL_ (some 11) rfl rfl Tryd.func52 (by kernel_rfl) rfl #[.int .i64 a0, .int .i64 a1] rfl (by (try simp only [List.map_toArray, List.map_cons, List.map_nil]); first | done | rfl | (simp only [List.length_drop, List.length_take]; rfl)) ?_; (with_reducible refine (mudlarkref01_PutOctal.calls k a0 a1 t136 false _ A3.out).mono ?_); rintro e w7 ⟨v138, rfl, ho0, hb⟩; refine ⟨_, rfl, ?_⟩; have n0_ := Aside0.mk (Kd.R_lower ho0 (below_size (by repeat (first | (with_reducible first | exact HB.out | apply below_alloc | apply pw_below_drewN | apply below_drew1) | exact HB.out)))); have n1_ := Aside0.mk (below_step (by repeat (first | (with_reducible first | exact HB.out | apply below_alloc | apply pw_below_drewN | apply below_drew1) | exact HB.out)) hb); clear HB; have HO139 := n0_; have HB := n1_; clear n0_ n1_; (try clear hb); (try clear hb2); (try clear hk); (try clear hi); (try clear ho0)) | ((with_reducible refine gate_callee (f := 79) rfl ?_); refine goesL_ (some 18) rfl rfl Tryd.func79 (by kernel_rfl) rfl #[.int .i64 a0, .int .i64 a1] rfl (by (try simp only [List.map_toArray, List.map_cons, List.map_nil]); first | done | rfl | (simp only [List.length_drop, List.length_take]; rfl)) ?_; (with_reducible refine (mudlarkref01_PutBinary.calls k a0 a1 t140 t141 _ A6.out).mono ?_); rintro e w8 ⟨v142, rfl, ho0, hb⟩; refine ⟨_, rfl, ?_⟩; have n0_ := Aside0.mk (Kd.R_elder' (by (with_reducible repeat (first | apply Kd.R_alloc | apply Kd.R_drewN | apply Kd.R_drew)); exact HO139.out) (Kd.R_base ho0) hb); have n1_ := Aside0.mk (Kd.R_lower (Kd.R_new' ho0 (Kd.R_lt (by (with_reducible repeat (first | apply Kd.R_alloc | apply Kd.R_drewN | apply Kd.R_drew)); exact HO139.out))) (below_size (by repeat (first | (with_reducible first | exact HB.out | apply below_alloc | apply pw_below_drewN | apply below_drew1) | exact HB.out)))); have n2_ := Aside0.mk (below_step (by repeat (first | (with_reducible first | exact HB.out | apply below_alloc | apply pw_below_drewN | apply below_drew1) | exact HB.out)) hb); clear HO139; clear HB; have HO139 := n0_; have HO143 := n1_; have HB := n2_; clear n0_ n1_ n2_; (try clear hb); (try clear hb2); (try clear hk); (try clear hi); (try clear ho0)))
  go_ret2
  exact ⟨_, by first | rfl | (simp [errW_none, errW_some] <;> rfl) | (simp [*, errW_none, errW_some] <;> rfl), by (with_reducible repeat (first | apply Kd.R_alloc | apply Kd.R_drewN | apply Kd.R_drew)); exact Kd.R_mono HO143.out (fun _ hk => trivial), by repeat (first | (with_reducible first | exact HB.out | apply below_alloc | apply pw_below_drewN | apply below_drew1) | exact HB.out)⟩

end Go.Proofs.YtdeolcgabkkocaaDoor.P
end
