/- Lean functions with the answers of the Go functions of this seat, and for each the proof that the Go code comes to them (made by the session's program over the kit's print). No conditions. -/
import Derived.Test.YtlnbkmlidmgbaaaDoorPx0
namespace Go.Proofs.YtlnbkmlidmgbaaaDoor.P
open Go.RowKit Go.Proofs.YtlnbkmlidmgbaaaDoorW.PrintWords Go.Proofs.YtlnbkmlidmgbaaaDoorW.PrintLast Go.Proofs.YtlnbkmlidmgbaaaDoorW.PrintMore
attribute [local go_sem] max2_int min2_int max_two min_two max_three min_three max_four min_four   -- for this text's walks alone
set_option linter.unusedVariables false
set_option linter.unusedSimpArgs false

/-! ### mudlarkref01_Binary: function 78 -/
mutual
def mudlarkref01_Binary.j0 : Nat → List Int → Bool → Option (Int × Bool)
 | 0, _, _ => none
 | k + 1, x0, x14 => if x14 = true then (some (0, false)) else (if 0 < (x0.length : Int) then (if (wrap64 ((wrap64 (rd x0 0)) - 128)) ≥ 64 then (mudlarkref01_Binary.j1 k x0 (wrap64 ((wrap64 ((wrap64 (rd x0 0)) - 128)) - 128))) else (mudlarkref01_Binary.j1 k x0 (wrap64 ((wrap64 (rd x0 0)) - 128)))) else (none))
def mudlarkref01_Binary.j1 : Nat → List Int → Int → Option (Int × Bool)
 | 0, _, _ => none
 | k + 1, x0, x4 => mudlarkref01_Binary.l0 k x0 x4 1
def mudlarkref01_Binary.l0 : Nat → List Int → Int → Int → Option (Int × Bool)
 | 0, _, _, _ => none
 | k + 1, x0, x4, x5 => if x5 < (x0.length : Int) then (if x4 > 18014398509481984 then (some (0, false)) else (if x4 < (-18014398509481985) then (some (0, false)) else (if 0 ≤ x5 then (mudlarkref01_Binary.l0 k x0 (wrap64 ((wrap64 (256 * x4)) + (wrap64 (rd x0 x5)))) (wrap64 (x5 + 1))) else (none)))) else (if x4 > 4611686018427387904 then (some (0, false)) else (if x4 < (-4611686018427387904) then (some (0, false)) else (some (x4, true))))
end
def mudlarkref01_Binary.f (k : Nat) (l0 : List Int) : Option (Int × Bool) := if (l0.length : Int) = 0 then (mudlarkref01_Binary.j0 k l0 true) else (if 0 < (l0.length : Int) then (mudlarkref01_Binary.j0 k l0 (decide ((rd l0 0) < 128))) else (none))
theorem mudlarkref01_Binary.mono_l : ∀ k, (∀ y0 y1, LeO (mudlarkref01_Binary.j0 k y0 y1) (mudlarkref01_Binary.j0 (k + 1) y0 y1)) ∧ (∀ y0 y1, LeO (mudlarkref01_Binary.j1 k y0 y1) (mudlarkref01_Binary.j1 (k + 1) y0 y1)) ∧ (∀ y0 y1 y2, LeO (mudlarkref01_Binary.l0 k y0 y1 y2) (mudlarkref01_Binary.l0 (k + 1) y0 y1 y2))
 | 0 => ⟨fun _ _ r h => by simp [mudlarkref01_Binary.j0] at h, fun _ _ r h => by simp [mudlarkref01_Binary.j1] at h, fun _ _ _ r h => by simp [mudlarkref01_Binary.l0] at h⟩
 | k + 1 => by
  obtain ⟨ih0, ih1, ih2⟩ := mudlarkref01_Binary.mono_l k
  refine ⟨?_, ?_, ?_⟩
  ·intro y0 y1
   unfold mudlarkref01_Binary.j0
   repeat' first
   | (with_reducible exact ih0 _ _)
   | (with_reducible exact ih1 _ _)
   | (with_reducible exact ih2 _ _ _)
   | (with_reducible exact LeO.refl _)
   | (with_reducible exact LeO.none _)
   | (with_reducible refine LeO.ite ?_ ?_)
   | (with_reducible refine LeO.bind ?_ (fun _ => ?_))
   | exact ih0 _ _
   | exact ih1 _ _
   | exact ih2 _ _ _
   | exact LeO.none _
   | refine LeO.ite ?_ ?_
   | refine LeO.bind ?_ (fun _ => ?_)
  ·intro y0 y1
   unfold mudlarkref01_Binary.j1
   repeat' first
   | (with_reducible exact ih0 _ _)
   | (with_reducible exact ih1 _ _)
   | (with_reducible exact ih2 _ _ _)
   | (with_reducible exact LeO.refl _)
   | (with_reducible exact LeO.none _)
   | (with_reducible refine LeO.ite ?_ ?_)
   | (with_reducible refine LeO.bind ?_ (fun _ => ?_))
   | exact ih0 _ _
   | exact ih1 _ _
   | exact ih2 _ _ _
   | exact LeO.none _
   | refine LeO.ite ?_ ?_
   | refine LeO.bind ?_ (fun _ => ?_)
  ·intro y0 y1 y2
   unfold mudlarkref01_Binary.l0
   repeat' first
   | (with_reducible exact ih0 _ _)
   | (with_reducible exact ih1 _ _)
   | (with_reducible exact ih2 _ _ _)
   | (with_reducible exact LeO.refl _)
   | (with_reducible exact LeO.none _)
   | (with_reducible refine LeO.ite ?_ ?_)
   | (with_reducible refine LeO.bind ?_ (fun _ => ?_))
   | exact ih0 _ _
   | exact ih1 _ _
   | exact ih2 _ _ _
   | exact LeO.none _
   | refine LeO.ite ?_ ?_
   | refine LeO.bind ?_ (fun _ => ?_)
theorem mudlarkref01_Binary.mono : ∀ a0 k, LeO (mudlarkref01_Binary.f k a0) (mudlarkref01_Binary.f (k + 1) a0) := by
 intro a0 k
 obtain ⟨ih0, ih1, ih2⟩ := mudlarkref01_Binary.mono_l k
 unfold mudlarkref01_Binary.f
 repeat' first
   | (with_reducible exact ih0 _ _)
   | (with_reducible exact ih1 _ _)
   | (with_reducible exact ih2 _ _ _)
   | (with_reducible exact LeO.refl _)
   | (with_reducible exact LeO.none _)
   | (with_reducible refine LeO.ite ?_ ?_)
   | (with_reducible refine LeO.bind ?_ (fun _ => ?_))
   | exact ih0 _ _
   | exact ih1 _ _
   | exact ih2 _ _ _
   | exact LeO.none _
   | refine LeO.ite ?_ ?_
   | refine LeO.bind ?_ (fun _ => ?_)
set_option maxHeartbeats 8000000 in
set_option maxRecDepth 100000 in
theorem mudlarkref01_Binary.calls (k : Nat) (A0 : Option Addr) (c0 : Nat) (l0 : List Int) (r1 : Int) (r2 : Bool) (w : World) (hr0 : Kd.C (Kd.int .u8) w A0 l0.length l0) (hc0 : l0.length ≤ c0) (h : mudlarkref01_Binary.f k l0 = some (r1, r2)) :
  Calls Tryd.prog 78 #[.slice A0 l0.length c0] w fun e w' => e = .returned (.tuple #[.int .i64 r1, .bool r2]) ∧ Drawn0 w w' := by
 have HR0 := Aside0.mk hr0
 have HC0 := Aside0.mk hc0
 clear hr0 hc0
 have H : (if (l0.length : Int) = 0 then (mudlarkref01_Binary.j0 k l0 true) else (if 0 < (l0.length : Int) then (mudlarkref01_Binary.j0 k l0 (decide ((rd l0 0) < 128))) else (none))) = some (r1, r2) := h
 clear h
 have HC2 := Aside0.mk H
 clear H
 go_enter Tryd.func78, Tryd.ntmps78
 go_upto_region 1 with (fail)
 go_cut [14] (fun v14 wc => ∃ (kq : Nat) (x14_1 : Bool), v14 = .bool x14_1 ∧ Aside0 (mudlarkref01_Binary.j0 kq l0 x14_1 = some (r1, r2)) ∧ Aside0 (kq ≤ k) ∧ Drawn0 w wc)
 case first =>
  have H := HC2.out
  clear HC2
  by_cases c3 : (l0.length : Int) = 0
  ·rw [if_pos c3] at H
   have c3b0 : ((l0.length : Int) == 0) = true := beq_iff_eq.mpr c3
   have c3b1 : ((l0.length : Int) != 0) = false := bne_eq_false_iff_eq.mpr c3
   clear c3
   (first | rw [c3b0] | (simp only [i64_w, i32_w]; rw [c3b0]) | skip)
   have H' := Aside0.mk H
   clear H
   go_wp2
   go_meet
   case rel => exact ⟨_, (true), (by first | rfl | (simp; done) | (simp [*]; done)), H', ⟨by first | omega | exact Nat.le_refl _⟩, by repeat (first | exact Drawn0.refl _ | apply Drawn0.step)⟩
  ·rw [if_neg c3] at H
   have c3b0 : ((l0.length : Int) == 0) = false := beq_eq_false_iff_ne.mpr c3
   have c3b1 : ((l0.length : Int) != 0) = true := bne_iff_ne.mpr c3
   have c3b2 : ¬ (l0 = []) := fun h_ => c3 (by rw [h_]; rfl)
   (first | rw [c3b0] | (simp only [i64_w, i32_w]; rw [c3b0]) | skip)
   by_cases c4 : 0 < (l0.length : Int)
   ·rw [if_pos c4] at H
    have c4b0 : decide (0 < (l0.length : Int)) = true := decide_eq_true c4
    have c4b1 : decide (0 < l0.length) = true := decide_eq_true (by omega)
    clear c4
    have H' := Aside0.mk H
    clear H
    have p206 : 0 ≤ (0 : Int) := (by omega)
    have q206 : 0 < (l0.length : Int) := of_decide_eq_true (by first | (with_reducible assumption) | assumption)
    obtain ⟨ad206, e206, hx206_0⟩ := Kd.at_int HR0.out 0 p206 q206
    cases e206
    have qi206 : (0 < l0.length) = True := eq_true (by omega)
    (try rw [show ((0 : Int)).toNat = 0 from rfl] at hx206_0)
    (try rw [Addr.add_zero'] at hx206_0)
    replace p206 := eq_true p206
    replace q206 := eq_true q206
    go_wp2
    go_meet
    case rel => exact ⟨_, (decide ((rd l0 0) < 128)), (by first | rfl | (simp; done) | (simp [*]; done)), H', ⟨by first | omega | exact Nat.le_refl _⟩, by repeat (first | exact Drawn0.refl _ | apply Drawn0.step)⟩
   ·rw [if_neg c4] at H
    exact absurd H (by simp)
 case rest =>
  clear HC2
  try clear p2
  try clear q2
  try clear hx2
  try clear qi2
  try clear c3
  try clear c3b0
  try clear c3b1
  try clear c3b2
  try clear c4
  try clear c4b0
  try clear c4b1
  try clear hx206_0
  try clear p206
  try clear q206
  obtain ⟨kq, x14_1, rfl, HA, HJ1, ⟨mc1, rfl⟩⟩ := hcut
  cases kq with
  | zero => exact absurd HA.out (by simp [mudlarkref01_Binary.j0])
  | succ kj1 =>
   have H := HA.out
   clear HA
   simp only [mudlarkref01_Binary.j0] at H
   by_cases c5 : x14_1 = true
   ·subst c5
    have H1 : (some (0, false)) = some (r1, r2) := by rw [if_pos rfl] at H; exact H
    clear H
    have H := H1
    clear H1
    simp only [Option.some.injEq, Prod.mk.injEq] at H
    obtain ⟨rfl, rfl⟩ := H
    go_wp2
    go_ret2
    exact ⟨by first | rfl | (simp; done) | (simp [*]; done), by repeat (first | exact Drawn0.refl _ | apply Drawn0.step)⟩
   ·replace c5 := Bool.eq_false_iff.mpr c5
    subst c5
    have H1 : (if 0 < (l0.length : Int) then (if (wrap64 ((wrap64 (rd l0 0)) - 128)) ≥ 64 then (mudlarkref01_Binary.j1 kj1 l0 (wrap64 ((wrap64 ((wrap64 (rd l0 0)) - 128)) - 128))) else (mudlarkref01_Binary.j1 kj1 l0 (wrap64 ((wrap64 (rd l0 0)) - 128)))) else (none)) = some (r1, r2) := by rw [if_neg (show ¬ (false = true) by decide)] at H; exact H
    clear H
    have H := H1
    clear H1
    by_cases c6 : 0 < (l0.length : Int)
    ·rw [if_pos c6] at H
     have c6b0 : decide (0 < (l0.length : Int)) = true := decide_eq_true c6
     have c6b1 : decide (0 < l0.length) = true := decide_eq_true (by omega)
     clear c6
     have HC7 := Aside0.mk H
     clear H
     have p207 : 0 ≤ (0 : Int) := (by omega)
     have q207 : 0 < (l0.length : Int) := of_decide_eq_true (by first | (with_reducible assumption) | assumption)
     obtain ⟨ad207, e207, hx207_0⟩ := Kd.at_int HR0.out 0 p207 q207
     cases e207
     have qi207 : (0 < l0.length) = True := eq_true (by omega)
     (try rw [show ((0 : Int)).toNat = 0 from rfl] at hx207_0)
     (try rw [Addr.add_zero'] at hx207_0)
     replace p207 := eq_true p207
     replace q207 := eq_true q207
     go_upto_if 21 with (fail)
     go_cut [4] (fun v4 wc => ∃ (kq : Nat) (x4_6 : Int), v4 = .int .i64 x4_6 ∧ Aside0 (mudlarkref01_Binary.j1 kq l0 x4_6 = some (r1, r2)) ∧ Aside0 (kq ≤ kj1) ∧ Drawn0 w wc)
     case first =>
      have H := HC7.out
      clear HC7
      by_cases c8 : (wrap64 ((wrap64 (rd l0 0)) - 128)) ≥ 64
      ·rw [if_pos c8] at H
       have c8b0 : decide (64 ≤ (wrap64 ((wrap64 (rd l0 0)) - 128))) = true := decide_eq_true c8
       clear c8
       (first | rw [c8b0] | (simp only [i64_w, i32_w]; rw [c8b0]) | skip)
       have H' := Aside0.mk H
       clear H
       go_wp2
       go_meet
       case rel => exact ⟨_, (wrap64 ((wrap64 ((wrap64 (rd l0 0)) - 128)) - 128)), (by first | rfl | (simp; done) | (simp [*]; done)), H', ⟨by have := HJ1.out; first | omega | exact Nat.le_refl _⟩, by repeat (first | exact Drawn0.refl _ | apply Drawn0.step)⟩
      ·rw [if_neg c8] at H
       have c8b0 : decide (64 ≤ (wrap64 ((wrap64 (rd l0 0)) - 128))) = false := decide_eq_false c8
       clear c8
       (first | rw [c8b0] | (simp only [i64_w, i32_w]; rw [c8b0]) | skip)
       have H' := Aside0.mk H
       clear H
       go_wp2
       go_meet
       case rel => exact ⟨_, (wrap64 ((wrap64 (rd l0 0)) - 128)), (by first | rfl | (simp; done) | (simp [*]; done)), H', ⟨by have := HJ1.out; first | omega | exact Nat.le_refl _⟩, by repeat (first | exact Drawn0.refl _ | apply Drawn0.step)⟩
     case rest =>
      clear HC7
      try clear c1
      try clear p2
      try clear q2
      try clear hx2
      try clear qi2
      try clear c3
      try clear c3b0
      try clear c3b1
      try clear c3b2
      try clear c4
      try clear c4b0
      try clear c4b1
      try clear c5
      try clear c6
      try clear c6b0
      try clear c6b1
      try clear p6
      try clear c7
      try clear c8
      try clear c8b0
      try clear hx206_0
      try clear hx207_0
      try clear p2
      try clear p206
      try clear p207
      try clear q2
      try clear q206
      try clear q207
      obtain ⟨kq, x4_6, rfl, HA, HJ6, ⟨mc6, rfl⟩⟩ := hcut
      cases kq with
      | zero => exact absurd HA.out (by simp [mudlarkref01_Binary.j1])
      | succ kj6 =>
       have H := HA.out
       clear HA
       simp only [mudlarkref01_Binary.j1] at H
       have H' := Aside0.mk H
       clear H
       go_wp2
       go_loopg [4, 5] kj6 (fun kq v4 v5 w' => ∃ (x4_3 : Int) (x5_3 : Int), v4 = .int .i64 x4_3 ∧ v5 = .int .i64 x5_3 ∧ Aside0 (mudlarkref01_Binary.l0 kq l0 x4_3 x5_3 = some (r1, r2)) ∧ Aside0 (kq ≤ kj6) ∧ Drawn0 w w')
       case atStart => exact ⟨(x4_6), (1), (by first | rfl | (simp; done) | (simp [*]; done)), (by first | rfl | (simp; done) | (simp [*]; done)), H', ⟨Nat.le_refl _⟩, by repeat (first | exact Drawn0.refl _ | apply Drawn0.step)⟩
       case round =>
        clear H'
        try clear c1
        try clear p2
        try clear q2
        try clear hx2
        try clear qi2
        try clear c3
        try clear c3b0
        try clear c3b1
        try clear c3b2
        try clear c4
        try clear c4b0
        try clear c4b1
        try clear c5
        try clear c6
        try clear c6b0
        try clear c6b1
        try clear p6
        try clear c7
        try clear c8
        try clear c8b0
        try clear hx206_0
        try clear hx207_0
        try clear p2
        try clear p206
        try clear p207
        try clear p6
        try clear q2
        try clear q206
        try clear q207
        obtain ⟨x4_3, x5_3, rfl, rfl, HA, HK3, ⟨m3, rfl⟩⟩ := hrel
        cases gk with
        | zero => exact absurd HA.out (by simp [mudlarkref01_Binary.l0])
        | succ k3 =>
         have H := HA.out
         clear HA
         simp only [mudlarkref01_Binary.l0] at H
         by_cases c9 : x5_3 < (l0.length : Int)
         ·rw [if_pos c9] at H
          have c9b0 : decide (x5_3 < (l0.length : Int)) = true := decide_eq_true c9
          clear c9
          by_cases c10 : x4_3 > 18014398509481984
          ·rw [if_pos c10] at H
           have c10b0 : decide (18014398509481984 < x4_3) = true := decide_eq_true c10
           clear c10
           simp only [Option.some.injEq, Prod.mk.injEq] at H
           obtain ⟨rfl, rfl⟩ := H
           go_wp2
           go_ret2
           exact ⟨by first | rfl | (simp; done) | (simp [*]; done), by repeat (first | exact Drawn0.refl _ | apply Drawn0.step)⟩
          ·rw [if_neg c10] at H
           have c10b0 : decide (18014398509481984 < x4_3) = false := decide_eq_false c10
           clear c10
           by_cases c11 : x4_3 < (-18014398509481985)
           ·rw [if_pos c11] at H
            have c11b0 : decide (x4_3 < (-18014398509481985)) = true := decide_eq_true c11
            clear c11
            simp only [Option.some.injEq, Prod.mk.injEq] at H
            obtain ⟨rfl, rfl⟩ := H
            go_wp2
            go_ret2
            exact ⟨by first | rfl | (simp; done) | (simp [*]; done), by repeat (first | exact Drawn0.refl _ | apply Drawn0.step)⟩
           ·rw [if_neg c11] at H
            have c11b0 : decide (x4_3 < (-18014398509481985)) = false := decide_eq_false c11
            clear c11
            by_cases c12 : 0 ≤ x5_3
            ·rw [if_pos c12] at H
             have c12b0 : decide (0 ≤ x5_3) = true := decide_eq_true c12
             clear c12
             have H' := Aside0.mk H
             clear H
             have p208 : 0 ≤ (x5_3 : Int) := of_decide_eq_true (by first | (with_reducible assumption) | assumption)
             have q208 : x5_3 < (l0.length : Int) := of_decide_eq_true (by first | (with_reducible assumption) | assumption)
             obtain ⟨ad208, e208, hx208_0⟩ := Kd.at_int HR0.out x5_3 p208 q208
             obtain rfl : ad207 = ad208 := (by injection e208)
             replace p208 := eq_true p208
             replace q208 := eq_true q208
             go_wp2
             go_roundg k3
             case measure => have := HJ1.out; have := HJ6.out; have := HK3.out; omega
             case rel => exact ⟨(wrap64 ((wrap64 (256 * x4_3)) + (wrap64 (rd l0 x5_3)))), (wrap64 (x5_3 + 1)), (by first | rfl | (simp; done) | (simp [*]; done)), (by first | rfl | (simp; done) | (simp [*]; done)), H', ⟨by have := HJ1.out; have := HJ6.out; have := HK3.out; omega⟩, by repeat (first | exact Drawn0.refl _ | apply Drawn0.step)⟩
            ·rw [if_neg c12] at H
             exact absurd H (by simp)
         ·rw [if_neg c9] at H
          have c9b0 : decide (x5_3 < (l0.length : Int)) = false := decide_eq_false c9
          clear c9
          by_cases c13 : x4_3 > 4611686018427387904
          ·rw [if_pos c13] at H
           have c13b0 : decide (4611686018427387904 < x4_3) = true := decide_eq_true c13
           clear c13
           simp only [Option.some.injEq, Prod.mk.injEq] at H
           obtain ⟨rfl, rfl⟩ := H
           go_wp2
           go_ret2
           exact ⟨by first | rfl | (simp; done) | (simp [*]; done), by repeat (first | exact Drawn0.refl _ | apply Drawn0.step)⟩
          ·rw [if_neg c13] at H
           have c13b0 : decide (4611686018427387904 < x4_3) = false := decide_eq_false c13
           clear c13
           by_cases c14 : x4_3 < (-4611686018427387904)
           ·rw [if_pos c14] at H
            have c14b0 : decide (x4_3 < (-4611686018427387904)) = true := decide_eq_true c14
            clear c14
            simp only [Option.some.injEq, Prod.mk.injEq] at H
            obtain ⟨rfl, rfl⟩ := H
            go_wp2
            go_ret2
            exact ⟨by first | rfl | (simp; done) | (simp [*]; done), by repeat (first | exact Drawn0.refl _ | apply Drawn0.step)⟩
           ·rw [if_neg c14] at H
            have c14b0 : decide (x4_3 < (-4611686018427387904)) = false := decide_eq_false c14
            clear c14
            simp only [Option.some.injEq, Prod.mk.injEq] at H
            obtain ⟨rfl, rfl⟩ := H
            go_wp2
            go_ret2
            exact ⟨by first | rfl | (simp; done) | (simp [*]; done), by repeat (first | exact Drawn0.refl _ | apply Drawn0.step)⟩
    ·rw [if_neg c6] at H
     exact absurd H (by simp)

/-! ### mudlarkref01_blank: function 95 -/
def mudlarkref01_blank.l0 : Nat → List Int → Bool → Int → Option (Bool)
 | 0, _, _, _ => none
 | k + 1, x0, x1, x5 => if x5 < (x0.length : Int) then (if 0 ≤ x5 then (if (rd x0 x5) = 32 then (mudlarkref01_blank.l0 k x0 x1 (wrap64 (x5 + 1))) else (if x1 = true then (if ((rd x0 x5) = 0) then (mudlarkref01_blank.l0 k x0 x1 (wrap64 (x5 + 1))) else (some false)) else (some false))) else (none)) else (some true)
def mudlarkref01_blank.f (k : Nat) (l0 : List Int) (a1 : Bool) : Option (Bool) := mudlarkref01_blank.l0 k l0 a1 0
theorem mudlarkref01_blank.mono_l : ∀ k, (∀ y0 y1 y2, LeO (mudlarkref01_blank.l0 k y0 y1 y2) (mudlarkref01_blank.l0 (k + 1) y0 y1 y2))
 | 0 => fun _ _ _ r h => by simp [mudlarkref01_blank.l0] at h
 | k + 1 => by
  have ih0 := mudlarkref01_blank.mono_l k
  ·intro y0 y1 y2
   unfold mudlarkref01_blank.l0
   repeat' first
   | (with_reducible exact ih0 _ _ _)
   | (with_reducible exact LeO.refl _)
   | (with_reducible exact LeO.none _)
   | (with_reducible refine LeO.ite ?_ ?_)
   | (with_reducible refine LeO.bind ?_ (fun _ => ?_))
   | exact ih0 _ _ _
   | exact LeO.none _
   | refine LeO.ite ?_ ?_
   | refine LeO.bind ?_ (fun _ => ?_)
theorem mudlarkref01_blank.mono : ∀ a0 a1 k, LeO (mudlarkref01_blank.f k a0 a1) (mudlarkref01_blank.f (k + 1) a0 a1) := by
 intro a0 a1 k
 have ih0 := mudlarkref01_blank.mono_l k
 unfold mudlarkref01_blank.f
 repeat' first
   | (with_reducible exact ih0 _ _ _)
   | (with_reducible exact LeO.refl _)
   | (with_reducible exact LeO.none _)
   | (with_reducible refine LeO.ite ?_ ?_)
   | (with_reducible refine LeO.bind ?_ (fun _ => ?_))
   | exact ih0 _ _ _
   | exact LeO.none _
   | refine LeO.ite ?_ ?_
   | refine LeO.bind ?_ (fun _ => ?_)
set_option maxHeartbeats 8000000 in
set_option maxRecDepth 100000 in
theorem mudlarkref01_blank.calls (k : Nat) (A0 : Option Addr) (c0 : Nat) (l0 : List Int) (a1 : Bool) (r : Bool) (w : World) (hr0 : Kd.C (Kd.int .u8) w A0 l0.length l0) (hc0 : l0.length ≤ c0) (h : mudlarkref01_blank.f k l0 a1 = some r) :
  Calls Tryd.prog 95 #[.slice A0 l0.length c0, .bool a1] w fun e w' => e = .returned (.bool r) ∧ Drawn0 w w' := by
 have HR0 := Aside0.mk hr0
 have HC0 := Aside0.mk hc0
 clear hr0 hc0
 have H : (mudlarkref01_blank.l0 k l0 a1 0) = some r := h
 clear h
 have H' := Aside0.mk H
 clear H
 go_enter Tryd.func95, Tryd.ntmps95
 go_wp2
 go_loopg [5] k (fun kq v5 w' => ∃ (x5_1 : Int), v5 = .int .i64 x5_1 ∧ Aside0 (mudlarkref01_blank.l0 kq l0 a1 x5_1 = some r) ∧ Aside0 (kq ≤ k) ∧ Drawn0 w w')
 case atStart => exact ⟨(0), (by first | rfl | (simp; done) | (simp [*]; done)), H', ⟨Nat.le_refl _⟩, by repeat (first | exact Drawn0.refl _ | apply Drawn0.step)⟩
 case round =>
  clear H'
  try clear p2
  obtain ⟨x5_1, rfl, HA, HK1, ⟨m1, rfl⟩⟩ := hrel
  cases gk with
  | zero => exact absurd HA.out (by simp [mudlarkref01_blank.l0])
  | succ k1 =>
   have H := HA.out
   clear HA
   simp only [mudlarkref01_blank.l0] at H
   by_cases c3 : x5_1 < (l0.length : Int)
   ·rw [if_pos c3] at H
    have c3b0 : decide (x5_1 < (l0.length : Int)) = true := decide_eq_true c3
    clear c3
    by_cases c4 : 0 ≤ x5_1
    ·rw [if_pos c4] at H
     have c4b0 : decide (0 ≤ x5_1) = true := decide_eq_true c4
     clear c4
     by_cases c5 : (rd l0 x5_1) = 32
     ·rw [if_pos c5] at H
      have c5b0 : ((rd l0 x5_1) == 32) = true := beq_iff_eq.mpr c5
      have c5b1 : ((rd l0 x5_1) != 32) = false := bne_eq_false_iff_eq.mpr c5
      clear c5
      have H' := Aside0.mk H
      clear H
      have p209 : 0 ≤ (x5_1 : Int) := of_decide_eq_true (by first | (with_reducible assumption) | assumption)
      have q209 : x5_1 < (l0.length : Int) := of_decide_eq_true (by first | (with_reducible assumption) | assumption)
      obtain ⟨ad209, e209, hx209_0⟩ := Kd.at_int HR0.out x5_1 p209 q209
      cases e209
      replace p209 := eq_true p209
      replace q209 := eq_true q209
      go_wp2
      go_roundg k1
      case measure => have := HK1.out; omega
      case rel => exact ⟨(wrap64 (x5_1 + 1)), (by first | rfl | (simp; done) | (simp [*]; done)), H', ⟨by have := HK1.out; omega⟩, by repeat (first | exact Drawn0.refl _ | apply Drawn0.step)⟩
     ·rw [if_neg c5] at H
      have c5b0 : ((rd l0 x5_1) == 32) = false := beq_eq_false_iff_ne.mpr c5
      have c5b1 : ((rd l0 x5_1) != 32) = true := bne_iff_ne.mpr c5
      by_cases c6 : a1 = true
      ·subst c6
       have H1 : (if ((rd l0 x5_1) = 0) then (mudlarkref01_blank.l0 k1 l0 true (wrap64 (x5_1 + 1))) else (some false)) = some r := by rw [if_pos rfl] at H; exact H
       clear H
       have H := H1
       clear H1
       by_cases c7 : ((rd l0 x5_1) = 0)
       ·rw [if_pos c7] at H
        have c7b0 : ((rd l0 x5_1) == 0) = true := beq_iff_eq.mpr c7
        have c7b1 : ((rd l0 x5_1) != 0) = false := bne_eq_false_iff_eq.mpr c7
        clear c7
        have H' := Aside0.mk H
        clear H
        have p209 : 0 ≤ (x5_1 : Int) := of_decide_eq_true (by first | (with_reducible assumption) | assumption)
        have q209 : x5_1 < (l0.length : Int) := of_decide_eq_true (by first | (with_reducible assumption) | assumption)
        obtain ⟨ad209, e209, hx209_0⟩ := Kd.at_int HR0.out x5_1 p209 q209
        cases e209
        replace p209 := eq_true p209
        replace q209 := eq_true q209
        have p210 : 0 ≤ (x5_1 : Int) := of_decide_eq_true (by first | (with_reducible assumption) | assumption)
        have q210 : x5_1 < (l0.length : Int) := of_decide_eq_true (by first | (with_reducible assumption) | assumption)
        obtain ⟨ad210, e210, hx210_0⟩ := Kd.at_int HR0.out x5_1 p210 q210
        obtain rfl : ad209 = ad210 := (by injection e210)
        replace p210 := eq_true p210
        replace q210 := eq_true q210
        go_wp2
        go_roundg k1
        case measure => have := HK1.out; omega
        case rel => exact ⟨(wrap64 (x5_1 + 1)), (by first | rfl | (simp; done) | (simp [*]; done)), H', ⟨by have := HK1.out; omega⟩, by repeat (first | exact Drawn0.refl _ | apply Drawn0.step)⟩
       ·rw [if_neg c7] at H
        have c7b0 : ((rd l0 x5_1) == 0) = false := beq_eq_false_iff_ne.mpr c7
        have c7b1 : ((rd l0 x5_1) != 0) = true := bne_iff_ne.mpr c7
        obtain rfl := Option.some.inj H
        have p209 : 0 ≤ (x5_1 : Int) := of_decide_eq_true (by first | (with_reducible assumption) | assumption)
        have q209 : x5_1 < (l0.length : Int) := of_decide_eq_true (by first | (with_reducible assumption) | assumption)
        obtain ⟨ad209, e209, hx209_0⟩ := Kd.at_int HR0.out x5_1 p209 q209
        cases e209
        replace p209 := eq_true p209
        replace q209 := eq_true q209
        have p210 : 0 ≤ (x5_1 : Int) := of_decide_eq_true (by first | (with_reducible assumption) | assumption)
        have q210 : x5_1 < (l0.length : Int) := of_decide_eq_true (by first | (with_reducible assumption) | assumption)
        obtain ⟨ad210, e210, hx210_0⟩ := Kd.at_int HR0.out x5_1 p210 q210
        obtain rfl : ad209 = ad210 := (by injection e210)
        replace p210 := eq_true p210
        replace q210 := eq_true q210
        go_wp2
        go_ret
        exact ⟨by first | rfl | (simp; done) | (simp [*]; done), by repeat (first | exact Drawn0.refl _ | apply Drawn0.step)⟩
      ·replace c6 := Bool.eq_false_iff.mpr c6
       subst c6
       have H1 : (some false) = some r := by rw [if_neg (show ¬ (false = true) by decide)] at H; exact H
       clear H
       have H := H1
       clear H1
       obtain rfl := Option.some.inj H
       have p209 : 0 ≤ (x5_1 : Int) := of_decide_eq_true (by first | (with_reducible assumption) | assumption)
       have q209 : x5_1 < (l0.length : Int) := of_decide_eq_true (by first | (with_reducible assumption) | assumption)
       obtain ⟨ad209, e209, hx209_0⟩ := Kd.at_int HR0.out x5_1 p209 q209
       cases e209
       replace p209 := eq_true p209
       replace q209 := eq_true q209
       go_wp2
       go_ret
       exact ⟨by first | rfl | (simp; done) | (simp [*]; done), by repeat (first | exact Drawn0.refl _ | apply Drawn0.step)⟩
    ·rw [if_neg c4] at H
     exact absurd H (by simp)
   ·rw [if_neg c3] at H
    have c3b0 : decide (x5_1 < (l0.length : Int)) = false := decide_eq_false c3
    clear c3
    obtain rfl := Option.some.inj H
    go_wp2
    go_ret
    exact ⟨by first | rfl | (simp; done) | (simp [*]; done), by repeat (first | exact Drawn0.refl _ | apply Drawn0.step)⟩

end Go.Proofs.YtlnbkmlidmgbaaaDoor.P
