/- Lean functions with the answers of the Go functions of this seat, and for each the proof that the Go code comes to them (made by the session's program over the kit's print). No conditions. -/
import Derived.Test.YtnhaicihkmcabaaDoorPx0
import Derived.Test.YtnhaicihkmcabaaDoorPx4
namespace Go.Proofs.YtnhaicihkmcabaaDoor.P
open Go.RowKit Go.Proofs.YtnhaicihkmcabaaDoorW.PrintWords Go.Proofs.YtnhaicihkmcabaaDoorW.PrintLast Go.Proofs.YtnhaicihkmcabaaDoorW.PrintMore
attribute [local go_sem] max2_int min2_int max_two min_two max_three min_three max_four min_four   -- for this text's walks alone
set_option linter.unusedVariables false
set_option linter.unusedSimpArgs false

/-! ### mudlarkref01_Binary: function 27 -/
mutual
def mudlarkref01_Binary.j0 : Nat → List Int → Bool → Option (Int × Bool)
  | 0, _, _ => none
  | k + 1, x0, x14 => if x14 = true then (some (0, false)) else (if 0 < (x0.length : Int) then (if (wrap64 ((wrap64 (rd x0 0)) - 128)) ≥ 64 then (mudlarkref01_Binary.j1 k x0 (wrap64 ((wrap64 ((wrap64 (rd x0 0)) - 128)) - 128))) else (mudlarkref01_Binary.j1 k x0 (wrap64 ((wrap64 (rd x0 0)) - 128)))) else (none))
def mudlarkref01_Binary.j1 : Nat → List Int → Int → Option (Int × Bool)
  | 0, _, _ => none
  | k + 1, x0, x4 => mudlarkref01_Binary.l0 k x0 x4 1
def mudlarkref01_Binary.l0 : Nat → List Int → Int → Int → Option (Int × Bool)
  | 0, _, _, _ => none
  | k + 1, x0, x4, x5 => if x5 < (x0.length : Int) then (if x4 > 18014398509481984 then (some (0, false)) else (if x4 < (-18014398509481985) then (some (0, false)) else (if 0 ≤ x5 then (mudlarkref01_Binary.l0 k x0 (wrap64 ((wrap64 (256 * x4)) + (wrap64 (rd x0 x5)))) (wrap64 (x5 + 1))) else (none)))) else (if x4 > 4611686018427387904 then (some (0, false)) else (if x4 < (-4611686018427387904) then (some (0, false)) else (some (x4, true))))
end
def mudlarkref01_Binary.f (k : Nat) (l0 : List Int) : Option (Int × Bool) := if (l0.length : Int) = 0 then (mudlarkref01_Binary.j0 k l0 true) else (if 0 < (l0.length : Int) then (mudlarkref01_Binary.j0 k l0 (decide ((rd l0 0) < 128))) else (none))
theorem mudlarkref01_Binary.mono_l : ∀ k, (∀ y0 y1, LeO (mudlarkref01_Binary.j0 k y0 y1) (mudlarkref01_Binary.j0 (k + 1) y0 y1)) ∧ (∀ y0 y1, LeO (mudlarkref01_Binary.j1 k y0 y1) (mudlarkref01_Binary.j1 (k + 1) y0 y1)) ∧ (∀ y0 y1 y2, LeO (mudlarkref01_Binary.l0 k y0 y1 y2) (mudlarkref01_Binary.l0 (k + 1) y0 y1 y2))
  | 0 => ⟨fun _ _ r h => by simp [mudlarkref01_Binary.j0] at h, fun _ _ r h => by simp [mudlarkref01_Binary.j1] at h, fun _ _ _ r h => by simp [mudlarkref01_Binary.l0] at h⟩
  | k + 1 => by
    obtain ⟨ih0, ih1, ih2⟩ := mudlarkref01_Binary.mono_l k
    refine ⟨?_, ?_, ?_⟩
    · intro y0 y1
      unfold mudlarkref01_Binary.j0
      repeat' first
      | (with_reducible exact ih0 _ _)
      | (with_reducible exact ih1 _ _)
      | (with_reducible exact ih2 _ _ _)
      | (with_reducible exact LeO.refl _)
      | (with_reducible exact LeO.none _)
      | (with_reducible refine LeO.ite ?_ ?_)
      | (with_reducible refine LeO.bind ?_ (fun _ => ?_))
      | exact ih0 _ _
      | exact ih1 _ _
      | exact ih2 _ _ _
      | exact LeO.none _
      | refine LeO.ite ?_ ?_
      | refine LeO.bind ?_ (fun _ => ?_)
    · intro y0 y1
      unfold mudlarkref01_Binary.j1
      repeat' first
      | (with_reducible exact ih0 _ _)
      | (with_reducible exact ih1 _ _)
      | (with_reducible exact ih2 _ _ _)
      | (with_reducible exact LeO.refl _)
      | (with_reducible exact LeO.none _)
      | (with_reducible refine LeO.ite ?_ ?_)
      | (with_reducible refine LeO.bind ?_ (fun _ => ?_))
      | exact ih0 _ _
      | exact ih1 _ _
      | exact ih2 _ _ _
      | exact LeO.none _
      | refine LeO.ite ?_ ?_
      | refine LeO.bind ?_ (fun _ => ?_)
    · intro y0 y1 y2
      unfold mudlarkref01_Binary.l0
      repeat' first
      | (with_reducible exact ih0 _ _)
      | (with_reducible exact ih1 _ _)
      | (with_reducible exact ih2 _ _ _)
      | (with_reducible exact LeO.refl _)
      | (with_reducible exact LeO.none _)
      | (with_reducible refine LeO.ite ?_ ?_)
      | (with_reducible refine LeO.bind ?_ (fun _ => ?_))
      | exact ih0 _ _
      | exact ih1 _ _
      | exact ih2 _ _ _
      | exact LeO.none _
      | refine LeO.ite ?_ ?_
      | refine LeO.bind ?_ (fun _ => ?_)
theorem mudlarkref01_Binary.mono : ∀ a0 k, LeO (mudlarkref01_Binary.f k a0) (mudlarkref01_Binary.f (k + 1) a0) := by
  intro a0 k
  obtain ⟨ih0, ih1, ih2⟩ := mudlarkref01_Binary.mono_l k
  unfold mudlarkref01_Binary.f
  repeat' first
      | (with_reducible exact ih0 _ _)
      | (with_reducible exact ih1 _ _)
      | (with_reducible exact ih2 _ _ _)
      | (with_reducible exact LeO.refl _)
      | (with_reducible exact LeO.none _)
      | (with_reducible refine LeO.ite ?_ ?_)
      | (with_reducible refine LeO.bind ?_ (fun _ => ?_))
      | exact ih0 _ _
      | exact ih1 _ _
      | exact ih2 _ _ _
      | exact LeO.none _
      | refine LeO.ite ?_ ?_
      | refine LeO.bind ?_ (fun _ => ?_)
set_option maxHeartbeats 8000000 in
set_option maxRecDepth 100000 in
theorem mudlarkref01_Binary.calls (k : Nat) (A0 : Option Addr) (c0 : Nat) (l0 : List Int) (r1 : Int) (r2 : Bool) (w : World) (hr0 : Kd.C (Kd.int .u8) w A0 l0.length l0) (hc0 : l0.length ≤ c0) (h : mudlarkref01_Binary.f k l0 = some (r1, r2)) :
    Calls Tryd.prog 27 #[.slice A0 l0.length c0] w fun e w' => e = .returned (.tuple #[.int .i64 r1, .bool r2]) ∧ Drawn0 w w' := by
  have HR0 := Aside0.mk hr0
  have HC0 := Aside0.mk hc0
  clear hr0 hc0
  have H : (if (l0.length : Int) = 0 then (mudlarkref01_Binary.j0 k l0 true) else (if 0 < (l0.length : Int) then (mudlarkref01_Binary.j0 k l0 (decide ((rd l0 0) < 128))) else (none))) = some (r1, r2) := h
  clear h
  have HC2 := Aside0.mk H
  clear H
  go_enter Tryd.func27, Tryd.ntmps27
  go_upto_region 1 with (fail)
  go_cut [14] (fun v14 wc => ∃ (kq : Nat) (x14_1 : Bool), v14 = .bool x14_1 ∧ Aside0 (mudlarkref01_Binary.j0 kq l0 x14_1 = some (r1, r2)) ∧ Aside0 (kq ≤ k) ∧ Drawn0 w wc)
  case first =>
    have H := HC2.out
    clear HC2
    by_cases c3 : (l0.length : Int) = 0
    · rw [if_pos c3] at H
      have c3b0 : ((l0.length : Int) == 0) = true := beq_iff_eq.mpr c3
      have c3b1 : ((l0.length : Int) != 0) = false := bne_eq_false_iff_eq.mpr c3
      clear c3
      (first | rw [c3b0] | (simp only [i64_w, i32_w]; rw [c3b0]) | skip)
      have H' := Aside0.mk H
      clear H
      go_wp2
      go_meet
      case rel => exact ⟨_, (true), (by first | rfl | (simp; done) | (simp [*]; done)), H', ⟨by first | omega | exact Nat.le_refl _⟩, by repeat (first | exact Drawn0.refl _ | apply Drawn0.step)⟩
    · rw [if_neg c3] at H
      have c3b0 : ((l0.length : Int) == 0) = false := beq_eq_false_iff_ne.mpr c3
      have c3b1 : ((l0.length : Int) != 0) = true := bne_iff_ne.mpr c3
      have c3b2 : ¬ (l0 = []) := fun h_ => c3 (by rw [h_]; rfl)
      (first | rw [c3b0] | (simp only [i64_w, i32_w]; rw [c3b0]) | skip)
      by_cases c4 : 0 < (l0.length : Int)
      · rw [if_pos c4] at H
        have c4b0 : decide (0 < (l0.length : Int)) = true := decide_eq_true c4
        have c4b1 : decide (0 < l0.length) = true := decide_eq_true (by omega)
        clear c4
        have H' := Aside0.mk H
        clear H
        have p190 : 0 ≤ (0 : Int) := (by omega)
        have q190 : 0 < (l0.length : Int) := of_decide_eq_true (by first | (with_reducible assumption) | assumption)
        obtain ⟨ad190, e190, hx190_0⟩ := Kd.at_int HR0.out 0 p190 q190
        cases e190
        have qi190 : (0 < l0.length) = True := eq_true (by omega)
        (try rw [show ((0 : Int)).toNat = 0 from rfl] at hx190_0)
        (try rw [Addr.add_zero'] at hx190_0)
        replace p190 := eq_true p190
        replace q190 := eq_true q190
        go_wp2
        go_meet
        case rel => exact ⟨_, (decide ((rd l0 0) < 128)), (by first | rfl | (simp; done) | (simp [*]; done)), H', ⟨by first | omega | exact Nat.le_refl _⟩, by repeat (first | exact Drawn0.refl _ | apply Drawn0.step)⟩
      · rw [if_neg c4] at H
        exact absurd H (by simp)
  case rest =>
    clear HC2
    try clear p1
    try clear q1
    try clear hx1
    try clear qi1
    try clear c2
    try clear p2
    try clear c3
    try clear c3b0
    try clear c3b1
    try clear c3b2
    try clear c4
    try clear c4b0
    try clear c4b1
    try clear hx190_0
    try clear p190
    try clear q190
    obtain ⟨kq, x14_1, rfl, HA, HJ1, ⟨mc1, rfl⟩⟩ := hcut
    cases kq with
    | zero => exact absurd HA.out (by simp [mudlarkref01_Binary.j0])
    | succ kj1 =>
      have H := HA.out
      clear HA
      simp only [mudlarkref01_Binary.j0] at H
      by_cases c5 : x14_1 = true
      · subst c5
        have H1 : (some (0, false)) = some (r1, r2) := by rw [if_pos rfl] at H; exact H
        clear H
        have H := H1
        clear H1
        simp only [Option.some.injEq, Prod.mk.injEq] at H
        obtain ⟨rfl, rfl⟩ := H
        go_wp2
        go_ret2
        exact ⟨by first | rfl | (simp; done) | (simp [*]; done), by repeat (first | exact Drawn0.refl _ | apply Drawn0.step)⟩
      · replace c5 := Bool.eq_false_iff.mpr c5
        subst c5
        have H1 : (if 0 < (l0.length : Int) then (if (wrap64 ((wrap64 (rd l0 0)) - 128)) ≥ 64 then (mudlarkref01_Binary.j1 kj1 l0 (wrap64 ((wrap64 ((wrap64 (rd l0 0)) - 128)) - 128))) else (mudlarkref01_Binary.j1 kj1 l0 (wrap64 ((wrap64 (rd l0 0)) - 128)))) else (none)) = some (r1, r2) := by rw [if_neg (show ¬ (false = true) by decide)] at H; exact H
        clear H
        have H := H1
        clear H1
        by_cases c6 : 0 < (l0.length : Int)
        · rw [if_pos c6] at H
          have c6b0 : decide (0 < (l0.length : Int)) = true := decide_eq_true c6
          have c6b1 : decide (0 < l0.length) = true := decide_eq_true (by omega)
          clear c6
          have HC7 := Aside0.mk H
          clear H
          have p191 : 0 ≤ (0 : Int) := (by omega)
          have q191 : 0 < (l0.length : Int) := of_decide_eq_true (by first | (with_reducible assumption) | assumption)
          obtain ⟨ad191, e191, hx191_0⟩ := Kd.at_int HR0.out 0 p191 q191
          cases e191
          have qi191 : (0 < l0.length) = True := eq_true (by omega)
          (try rw [show ((0 : Int)).toNat = 0 from rfl] at hx191_0)
          (try rw [Addr.add_zero'] at hx191_0)
          replace p191 := eq_true p191
          replace q191 := eq_true q191
          go_upto_if 21 with (fail)
          go_cut [4] (fun v4 wc => ∃ (kq : Nat) (x4_6 : Int), v4 = .int .i64 x4_6 ∧ Aside0 (mudlarkref01_Binary.j1 kq l0 x4_6 = some (r1, r2)) ∧ Aside0 (kq ≤ kj1) ∧ Drawn0 w wc)
          case first =>
            have H := HC7.out
            clear HC7
            by_cases c8 : (wrap64 ((wrap64 (rd l0 0)) - 128)) ≥ 64
            · rw [if_pos c8] at H
              have c8b0 : decide (64 ≤ (wrap64 ((wrap64 (rd l0 0)) - 128))) = true := decide_eq_true c8
              clear c8
              (first | rw [c8b0] | (simp only [i64_w, i32_w]; rw [c8b0]) | skip)
              have H' := Aside0.mk H
              clear H
              go_wp2
              go_meet
              case rel => exact ⟨_, (wrap64 ((wrap64 ((wrap64 (rd l0 0)) - 128)) - 128)), (by first | rfl | (simp; done) | (simp [*]; done)), H', ⟨by have := HJ1.out; first | omega | exact Nat.le_refl _⟩, by repeat (first | exact Drawn0.refl _ | apply Drawn0.step)⟩
            · rw [if_neg c8] at H
              have c8b0 : decide (64 ≤ (wrap64 ((wrap64 (rd l0 0)) - 128))) = false := decide_eq_false c8
              clear c8
              (first | rw [c8b0] | (simp only [i64_w, i32_w]; rw [c8b0]) | skip)
              have H' := Aside0.mk H
              clear H
              go_wp2
              go_meet
              case rel => exact ⟨_, (wrap64 ((wrap64 (rd l0 0)) - 128)), (by first | rfl | (simp; done) | (simp [*]; done)), H', ⟨by have := HJ1.out; first | omega | exact Nat.le_refl _⟩, by repeat (first | exact Drawn0.refl _ | apply Drawn0.step)⟩
          case rest =>
            clear HC7
            try clear c1
            try clear p1
            try clear q1
            try clear hx1
            try clear qi1
            try clear c2
            try clear p2
            try clear c3
            try clear c3b0
            try clear c3b1
            try clear c3b2
            try clear c4
            try clear c4b0
            try clear c4b1
            try clear c5
            try clear c6
            try clear c6b0
            try clear c6b1
            try clear p6
            try clear c8
            try clear c8b0
            try clear hx190_0
            try clear hx191_0
            try clear p1
            try clear p190
            try clear p191
            try clear p2
            try clear q1
            try clear q190
            try clear q191
            obtain ⟨kq, x4_6, rfl, HA, HJ6, ⟨mc6, rfl⟩⟩ := hcut
            cases kq with
            | zero => exact absurd HA.out (by simp [mudlarkref01_Binary.j1])
            | succ kj6 =>
              have H := HA.out
              clear HA
              simp only [mudlarkref01_Binary.j1] at H
              have H' := Aside0.mk H
              clear H
              go_wp2
              go_loopg [4, 5] kj6 (fun kq v4 v5 w' => ∃ (x4_3 : Int) (x5_3 : Int), v4 = .int .i64 x4_3 ∧ v5 = .int .i64 x5_3 ∧ Aside0 (mudlarkref01_Binary.l0 kq l0 x4_3 x5_3 = some (r1, r2)) ∧ Aside0 (kq ≤ kj6) ∧ Drawn0 w w')
              case atStart => exact ⟨(x4_6), (1), (by first | rfl | (simp; done) | (simp [*]; done)), (by first | rfl | (simp; done) | (simp [*]; done)), H', ⟨Nat.le_refl _⟩, by repeat (first | exact Drawn0.refl _ | apply Drawn0.step)⟩
              case round =>
                clear H'
                try clear c1
                try clear p1
                try clear q1
                try clear hx1
                try clear qi1
                try clear c2
                try clear p2
                try clear c3
                try clear c3b0
                try clear c3b1
                try clear c3b2
                try clear c4
                try clear c4b0
                try clear c4b1
                try clear c5
                try clear c6
                try clear c6b0
                try clear c6b1
                try clear p6
                try clear c8
                try clear c8b0
                try clear hx190_0
                try clear hx191_0
                try clear p1
                try clear p190
                try clear p191
                try clear p2
                try clear p6
                try clear q1
                try clear q190
                try clear q191
                obtain ⟨x4_3, x5_3, rfl, rfl, HA, HK3, ⟨m3, rfl⟩⟩ := hrel
                cases gk with
                | zero => exact absurd HA.out (by simp [mudlarkref01_Binary.l0])
                | succ k3 =>
                  have H := HA.out
                  clear HA
                  simp only [mudlarkref01_Binary.l0] at H
                  by_cases c9 : x5_3 < (l0.length : Int)
                  · rw [if_pos c9] at H
                    have c9b0 : decide (x5_3 < (l0.length : Int)) = true := decide_eq_true c9
                    clear c9
                    by_cases c10 : x4_3 > 18014398509481984
                    · rw [if_pos c10] at H
                      have c10b0 : decide (18014398509481984 < x4_3) = true := decide_eq_true c10
                      clear c10
                      simp only [Option.some.injEq, Prod.mk.injEq] at H
                      obtain ⟨rfl, rfl⟩ := H
                      go_wp2
                      go_ret2
                      exact ⟨by first | rfl | (simp; done) | (simp [*]; done), by repeat (first | exact Drawn0.refl _ | apply Drawn0.step)⟩
                    · rw [if_neg c10] at H
                      have c10b0 : decide (18014398509481984 < x4_3) = false := decide_eq_false c10
                      clear c10
                      by_cases c11 : x4_3 < (-18014398509481985)
                      · rw [if_pos c11] at H
                        have c11b0 : decide (x4_3 < (-18014398509481985)) = true := decide_eq_true c11
                        clear c11
                        simp only [Option.some.injEq, Prod.mk.injEq] at H
                        obtain ⟨rfl, rfl⟩ := H
                        go_wp2
                        go_ret2
                        exact ⟨by first | rfl | (simp; done) | (simp [*]; done), by repeat (first | exact Drawn0.refl _ | apply Drawn0.step)⟩
                      · rw [if_neg c11] at H
                        have c11b0 : decide (x4_3 < (-18014398509481985)) = false := decide_eq_false c11
                        clear c11
                        by_cases c12 : 0 ≤ x5_3
                        · rw [if_pos c12] at H
                          have c12b0 : decide (0 ≤ x5_3) = true := decide_eq_true c12
                          clear c12
                          have H' := Aside0.mk H
                          clear H
                          have p192 : 0 ≤ (x5_3 : Int) := of_decide_eq_true (by first | (with_reducible assumption) | assumption)
                          have q192 : x5_3 < (l0.length : Int) := of_decide_eq_true (by first | (with_reducible assumption) | assumption)
                          obtain ⟨ad192, e192, hx192_0⟩ := Kd.at_int HR0.out x5_3 p192 q192
                          obtain rfl : ad191 = ad192 := (by injection e192)
                          replace p192 := eq_true p192
                          replace q192 := eq_true q192
                          go_wp2
                          go_roundg k3
                          case measure => have := HJ1.out; have := HJ6.out; have := HK3.out; omega
                          case rel => exact ⟨(wrap64 ((wrap64 (256 * x4_3)) + (wrap64 (rd l0 x5_3)))), (wrap64 (x5_3 + 1)), (by first | rfl | (simp; done) | (simp [*]; done)), (by first | rfl | (simp; done) | (simp [*]; done)), H', ⟨by have := HJ1.out; have := HJ6.out; have := HK3.out; omega⟩, by repeat (first | exact Drawn0.refl _ | apply Drawn0.step)⟩
                        · rw [if_neg c12] at H
                          exact absurd H (by simp)
                  · rw [if_neg c9] at H
                    have c9b0 : decide (x5_3 < (l0.length : Int)) = false := decide_eq_false c9
                    clear c9
                    by_cases c13 : x4_3 > 4611686018427387904
                    · rw [if_pos c13] at H
                      have c13b0 : decide (4611686018427387904 < x4_3) = true := decide_eq_true c13
                      clear c13
                      simp only [Option.some.injEq, Prod.mk.injEq] at H
                      obtain ⟨rfl, rfl⟩ := H
                      go_wp2
                      go_ret2
                      exact ⟨by first | rfl | (simp; done) | (simp [*]; done), by repeat (first | exact Drawn0.refl _ | apply Drawn0.step)⟩
                    · rw [if_neg c13] at H
                      have c13b0 : decide (4611686018427387904 < x4_3) = false := decide_eq_false c13
                      clear c13
                      by_cases c14 : x4_3 < (-4611686018427387904)
                      · rw [if_pos c14] at H
                        have c14b0 : decide (x4_3 < (-4611686018427387904)) = true := decide_eq_true c14
                        clear c14
                        simp only [Option.some.injEq, Prod.mk.injEq] at H
                        obtain ⟨rfl, rfl⟩ := H
                        go_wp2
                        go_ret2
                        exact ⟨by first | rfl | (simp; done) | (simp [*]; done), by repeat (first | exact Drawn0.refl _ | apply Drawn0.step)⟩
                      · rw [if_neg c14] at H
                        have c14b0 : decide (x4_3 < (-4611686018427387904)) = false := decide_eq_false c14
                        clear c14
                        simp only [Option.some.injEq, Prod.mk.injEq] at H
                        obtain ⟨rfl, rfl⟩ := H
                        go_wp2
                        go_ret2
                        exact ⟨by first | rfl | (simp; done) | (simp [*]; done), by repeat (first | exact Drawn0.refl _ | apply Drawn0.step)⟩
        · rw [if_neg c6] at H
          exact absurd H (by simp)

/-! ### mudlarkref01_PutBinary: function 21 -/
mutual
def mudlarkref01_PutBinary.j0 : Nat → Int → Int → Bool → Option (List Int × Bool)
  | 0, _, _, _ => none
  | k + 1, x0, x1, x17 => if x17 = true then (some (([] : List Int), false)) else (if 0 ≤ x1 then (if (x1 : Int).toNat ≤ 281474976710656 then (mudlarkref01_PutBinary.l0 k x0 (List.replicate (x1 : Int).toNat 0) x0 (wrap64 (x1 - 1))) else (none)) else (none))
def mudlarkref01_PutBinary.l0 : Nat → Int → List Int → Int → Int → Option (List Int × Bool)
  | 0, _, _, _, _ => none
  | k + 1, x0, x6, x7, x8 => if x8 ≥ 0 then (if (Int.tmod x7 256) < 0 then (if 0 ≤ x8 then (if x8 < (x6.length : Int) then (mudlarkref01_PutBinary.l0 k x0 (x6.set (x8 : Int).toNat ((wrap64 ((Int.tmod x7 256) + 256)) % 256)) (wrap64 (Int.tdiv (wrap64 (x7 - (wrap64 ((Int.tmod x7 256) + 256)))) 256)) (wrap64 (x8 - 1))) else (none)) else (none)) else (if 0 ≤ x8 then (if x8 < (x6.length : Int) then (mudlarkref01_PutBinary.l0 k x0 (x6.set (x8 : Int).toNat ((Int.tmod x7 256) % 256)) (wrap64 (Int.tdiv (wrap64 (x7 - (Int.tmod x7 256))) 256)) (wrap64 (x8 - 1))) else (none)) else (none))) else (if 0 < (x6.length : Int) then ((some (x6.set (0 : Int).toNat (((Int.tmod (rd x6 0) 128) + 128) % 256) : List Int)).bind fun y199 => ((mudlarkref01_Binary.f k y199).bind fun bt200 => (if bt200.2 = true then (if bt200.1 = x0 then (some (y199, true)) else (some (([] : List Int), false))) else (some (([] : List Int), false))))) else (none))
end
def mudlarkref01_PutBinary.f (k : Nat) (a0 : Int) (a1 : Int) : Option (List Int × Bool) := if a1 < 2 then (mudlarkref01_PutBinary.j0 k a0 a1 true) else (mudlarkref01_PutBinary.j0 k a0 a1 (decide (a1 > 32)))
theorem mudlarkref01_PutBinary.mono_l : ∀ k, (∀ y0 y1 y2, LeO (mudlarkref01_PutBinary.j0 k y0 y1 y2) (mudlarkref01_PutBinary.j0 (k + 1) y0 y1 y2)) ∧ (∀ y0 y1 y2 y3, LeO (mudlarkref01_PutBinary.l0 k y0 y1 y2 y3) (mudlarkref01_PutBinary.l0 (k + 1) y0 y1 y2 y3))
  | 0 => ⟨fun _ _ _ r h => by simp [mudlarkref01_PutBinary.j0] at h, fun _ _ _ _ r h => by simp [mudlarkref01_PutBinary.l0] at h⟩
  | k + 1 => by
    obtain ⟨ih0, ih1⟩ := mudlarkref01_PutBinary.mono_l k
    refine ⟨?_, ?_⟩
    · intro y0 y1 y2
      unfold mudlarkref01_PutBinary.j0
      repeat' first
      | (with_reducible exact ih0 _ _ _)
      | (with_reducible exact ih1 _ _ _ _)
      | (with_reducible exact mudlarkref01_Binary.mono _ _)
      | (with_reducible exact LeO.refl _)
      | (with_reducible exact LeO.none _)
      | (with_reducible refine LeO.ite ?_ ?_)
      | (with_reducible refine LeO.bind ?_ (fun _ => ?_))
      | exact ih0 _ _ _
      | exact ih1 _ _ _ _
      | exact mudlarkref01_Binary.mono _ _
      | exact LeO.none _
      | refine LeO.ite ?_ ?_
      | refine LeO.bind ?_ (fun _ => ?_)
    · intro y0 y1 y2 y3
      unfold mudlarkref01_PutBinary.l0
      repeat' first
      | (with_reducible exact ih0 _ _ _)
      | (with_reducible exact ih1 _ _ _ _)
      | (with_reducible exact mudlarkref01_Binary.mono _ _)
      | (with_reducible exact LeO.refl _)
      | (with_reducible exact LeO.none _)
      | (with_reducible refine LeO.ite ?_ ?_)
      | (with_reducible refine LeO.bind ?_ (fun _ => ?_))
      | exact ih0 _ _ _
      | exact ih1 _ _ _ _
      | exact mudlarkref01_Binary.mono _ _
      | exact LeO.none _
      | refine LeO.ite ?_ ?_
      | refine LeO.bind ?_ (fun _ => ?_)
theorem mudlarkref01_PutBinary.mono : ∀ a0 a1 k, LeO (mudlarkref01_PutBinary.f k a0 a1) (mudlarkref01_PutBinary.f (k + 1) a0 a1) := by
  intro a0 a1 k
  obtain ⟨ih0, ih1⟩ := mudlarkref01_PutBinary.mono_l k
  unfold mudlarkref01_PutBinary.f
  repeat' first
      | (with_reducible exact ih0 _ _ _)
      | (with_reducible exact ih1 _ _ _ _)
      | (with_reducible exact mudlarkref01_Binary.mono _ _)
      | (with_reducible exact LeO.refl _)
      | (with_reducible exact LeO.none _)
      | (with_reducible refine LeO.ite ?_ ?_)
      | (with_reducible refine LeO.bind ?_ (fun _ => ?_))
      | exact ih0 _ _ _
      | exact ih1 _ _ _ _
      | exact mudlarkref01_Binary.mono _ _
      | exact LeO.none _
      | refine LeO.ite ?_ ?_
      | refine LeO.bind ?_ (fun _ => ?_)
set_option maxHeartbeats 8000000 in
set_option maxRecDepth 100000 in
theorem mudlarkref01_PutBinary.calls (k : Nat) (a0 : Int) (a1 : Int) (r1 : List Int) (r2 : Bool) (w : World) (h : mudlarkref01_PutBinary.f k a0 a1 = some (r1, r2)) :
    Calls Tryd.prog 21 #[.int .i64 a0, .int .i64 a1] w fun e w' => ∃ v0_ : Value, e = .returned (.tuple #[v0_, .bool r2]) ∧ Kd.R (Kd.int .u8) 5 w' w.heap.size (fun _ => True) v0_ r1 ∧ Below w.heap.size w w' := by
  have HB := Aside0.mk (Below.refl w.heap.size w)
  have H : (if a1 < 2 then (mudlarkref01_PutBinary.j0 k a0 a1 true) else (mudlarkref01_PutBinary.j0 k a0 a1 (decide (a1 > 32)))) = some (r1, r2) := h
  clear h
  have HC3 := Aside0.mk H
  clear H
  go_enter Tryd.func21, Tryd.ntmps21
  go_upto_region 1 with (fail)
  go_cut [17] (fun v17 wc => ∃ (kq : Nat) (x17_2 : Bool), v17 = .bool x17_2 ∧ Aside0 (mudlarkref01_PutBinary.j0 kq a0 a1 x17_2 = some (r1, r2)) ∧ Aside0 (kq ≤ k) ∧ Aside0 (Below w.heap.size w wc))
  case first =>
    have H := HC3.out
    clear HC3
    by_cases c4 : a1 < 2
    · rw [if_pos c4] at H
      have c4b0 : decide (a1 < 2) = true := decide_eq_true c4
      clear c4
      (first | rw [c4b0] | (simp only [i64_w, i32_w]; rw [c4b0]) | skip)
      have H' := Aside0.mk H
      clear H
      go_wp2
      go_meet
      case rel => exact ⟨_, (true), (by first | rfl | (simp; done) | (simp [*]; done)), H', ⟨by first | omega | exact Nat.le_refl _⟩, ⟨by repeat (first | (with_reducible first | exact HB.out | apply below_alloc | apply pw_below_drewN | apply below_drew1) | exact HB.out)⟩⟩
    · rw [if_neg c4] at H
      have c4b0 : decide (a1 < 2) = false := decide_eq_false c4
      clear c4
      (first | rw [c4b0] | (simp only [i64_w, i32_w]; rw [c4b0]) | skip)
      have H' := Aside0.mk H
      clear H
      go_wp2
      go_meet
      case rel => exact ⟨_, (decide (a1 > 32)), (by first | rfl | (simp; done) | (simp [*]; done)), H', ⟨by first | omega | exact Nat.le_refl _⟩, ⟨by repeat (first | (with_reducible first | exact HB.out | apply below_alloc | apply pw_below_drewN | apply below_drew1) | exact HB.out)⟩⟩
  case rest =>
    clear HC3
    try clear c2
    try clear p2
    try clear c4
    try clear c4b0
    obtain ⟨kq, x17_2, rfl, HA, HJ2, HB⟩ := hcut
    cases kq with
    | zero => exact absurd HA.out (by simp [mudlarkref01_PutBinary.j0])
    | succ kj2 =>
      have H := HA.out
      clear HA
      simp only [mudlarkref01_PutBinary.j0] at H
      by_cases c5 : x17_2 = true
      · subst c5
        have H1 : (some (([] : List Int), false)) = some (r1, r2) := by rw [if_pos rfl] at H; exact H
        clear H
        have H := H1
        clear H1
        simp only [Option.some.injEq, Prod.mk.injEq] at H
        obtain ⟨rfl, rfl⟩ := H
        go_wp2
        go_ret2
        exact ⟨_, by first | rfl | (simp [errW_none, errW_some] <;> rfl) | (simp [*, errW_none, errW_some] <;> rfl), by first | exact Kd.R_nil _ _ _ _ _ | exact Kd.N_nil _ _ _ _ _ | exact Kd.V_nil _ _ _ _ _ | exact Kd.Q_nil _ _ _ _ _ | exact Kd.S_nil _ _ _ _ _, by repeat (first | (with_reducible first | exact HB.out | apply below_alloc | apply pw_below_drewN | apply below_drew1) | exact HB.out)⟩
      · replace c5 := Bool.eq_false_iff.mpr c5
        subst c5
        have H1 : (if 0 ≤ a1 then (if (a1 : Int).toNat ≤ 281474976710656 then (mudlarkref01_PutBinary.l0 kj2 a0 (List.replicate (a1 : Int).toNat 0) a0 (wrap64 (a1 - 1))) else (none)) else (none)) = some (r1, r2) := by rw [if_neg (show ¬ (false = true) by decide)] at H; exact H
        clear H
        have H := H1
        clear H1
        by_cases c6 : 0 ≤ a1
        · rw [if_pos c6] at H
          have c6b0 := eq_true c6
          have c6b1 : decide (0 ≤ a1) = true := decide_eq_true c6
          clear c6
          by_cases c7 : (a1 : Int).toNat ≤ 281474976710656
          · rw [if_pos c7] at H
            have c7b0 := eq_true c7
            have c7b1 : decide ((a1 : Int).toNat ≤ 281474976710656) = true := decide_eq_true c7
            clear c7
            obtain ⟨y193, hy193⟩ : ∃ y_ : List Int, y_ = (List.replicate (a1 : Int).toNat 0) := ⟨_, rfl⟩
            replace H : (mudlarkref01_PutBinary.l0 kj2 a0 y193 a0 (wrap64 (a1 - 1))) = some (r1, r2) := by first | (rw [hy193]; with_reducible exact H) | (have H2_ := (Option.bind_some _ _).symm.trans H; rw [hy193]; with_reducible exact H2_) | (have H2_ := (Option.bind_some _ _).symm.trans H; with_reducible exact H2_) | with_reducible exact H | (rw [hy193]; exact H) | exact H
            have Ny193 := Aside0.mk hy193
            clear hy193
            have H' := Aside0.mk H
            clear H
            go_wp2_with (first | ((with_reducible refine gate_dst (N := 19) rfl ?_); refine Kd.R_make (Kd.int .u8) _ 5 rfl (N := 19) rfl 22 _ _ rfl a1 rfl rfl Tryd.underlying22 (.int .u8 0) 1 info5 rfl (by decide) (by omega) 0 (ok := fun _ => True) (okp := fun _ => True) rfl (fun _ hk => hk) trivial (of_decide_eq_true (by first | (with_reducible assumption) | assumption)) (Nat.le_trans (Nat.mul_le_mul_right _ (of_decide_eq_true (by first | (with_reducible assumption) | assumption) : a1.toNat ≤ 281474976710656)) (by omega)) (Below.refl _ _) (Nat.le_refl _) ?_; intro v194 w8 ho9 hb hg_ hnew_; clear hg_ hnew_; (first | rw [← Ny193.out] at ho9 | (simp only [Int.reduceToNat] at ho9; rw [← Ny193.out] at ho9)); have n0_ := Aside0.mk (Kd.R_lower ho9 (below_size (by repeat (first | (with_reducible first | exact HB.out | apply below_alloc | apply pw_below_drewN | apply below_drew1) | exact HB.out)))); have n1_ := Aside0.mk (below_step (by repeat (first | (with_reducible first | exact HB.out | apply below_alloc | apply pw_below_drewN | apply below_drew1) | exact HB.out)) hb); clear HB; have HO195 := n0_; have HB := n1_; clear n0_ n1_; clear hb ho9))
            go_loopg [7, 8] kj2 (fun kq v7 v8 w' => ∃ (x6_2 : List Int) (x7_2 : Int) (x8_2 : Int), v7 = .int .i64 x7_2 ∧ v8 = .int .i64 x8_2 ∧ Aside0 (mudlarkref01_PutBinary.l0 kq a0 x6_2 x7_2 x8_2 = some (r1, r2)) ∧ Aside0 (kq ≤ kj2) ∧ Aside0 (Kd.R (Kd.int .u8) 5 w' w.heap.size (fun _ => True) v194 x6_2) ∧ Aside0 (Below w.heap.size w w'))
            case atStart => exact ⟨(y193), (a0), (wrap64 (a1 - 1)), (by first | rfl | (simp; done) | (simp [*]; done)), (by first | rfl | (simp; done) | (simp [*]; done)), H', ⟨Nat.le_refl _⟩, ⟨by (with_reducible repeat (first | apply Kd.R_alloc | apply Kd.R_drewN | apply Kd.R_drew)); exact HO195.out⟩, ⟨by repeat (first | (with_reducible first | exact HB.out | apply below_alloc | apply pw_below_drewN | apply below_drew1) | exact HB.out)⟩⟩
            case round =>
              clear H'
              try clear c2
              try clear p2
              try clear c4
              try clear c4b0
              try clear c5
              try clear c6
              try clear c6b0
              try clear c6b1
              try clear p6
              try clear c7
              try clear c7b0
              try clear c7b1
              try clear p2
              obtain ⟨x6_2, x7_2, x8_2, rfl, rfl, HA, HK2, HO_6, HB⟩ := hrel
              cases gk with
              | zero => exact absurd HA.out (by simp [mudlarkref01_PutBinary.l0])
              | succ k2 =>
                have H := HA.out
                clear HA
                simp only [mudlarkref01_PutBinary.l0] at H
                by_cases c10 : x8_2 ≥ 0
                · rw [if_pos c10] at H
                  have c10b0 : decide (0 ≤ x8_2) = true := decide_eq_true c10
                  clear c10
                  by_cases c11 : (Int.tmod x7_2 256) < 0
                  · rw [if_pos c11] at H
                    have c11b0 : decide ((Int.tmod x7_2 256) < 0) = true := decide_eq_true c11
                    clear c11
                    by_cases c12 : 0 ≤ x8_2
                    · rw [if_pos c12] at H
                      have c12b0 : decide (0 ≤ x8_2) = true := decide_eq_true c12
                      clear c12
                      by_cases c13 : x8_2 < (x6_2.length : Int)
                      · rw [if_pos c13] at H
                        have c13b0 : decide (x8_2 < (x6_2.length : Int)) = true := decide_eq_true c13
                        clear c13
                        obtain ⟨y196, hy196⟩ : ∃ y_ : List Int, y_ = (x6_2.set (x8_2 : Int).toNat ((wrap64 ((Int.tmod x7_2 256) + 256)) % 256)) := ⟨_, rfl⟩
                        replace H : (mudlarkref01_PutBinary.l0 k2 a0 y196 (wrap64 (Int.tdiv (wrap64 (x7_2 - (wrap64 ((Int.tmod x7_2 256) + 256)))) 256)) (wrap64 (x8_2 - 1))) = some (r1, r2) := by first | (rw [hy196]; with_reducible exact H) | (have H2_ := (Option.bind_some _ _).symm.trans H; rw [hy196]; with_reducible exact H2_) | (have H2_ := (Option.bind_some _ _).symm.trans H; with_reducible exact H2_) | with_reducible exact H | (rw [hy196]; exact H) | exact H
                        have Ny196 := Aside0.mk hy196
                        clear hy196
                        have H' := Aside0.mk H
                        clear H
                        have p14 : 0 ≤ (x8_2 : Int) := of_decide_eq_true (by first | (with_reducible assumption) | assumption)
                        have q14 : (x8_2 : Int) < ((x6_2.length : Int) : Int) := of_decide_eq_true (by first | (with_reducible assumption) | assumption)
                        obtain ⟨go14, co14, eo14, gb14, gl14, cl14, HG14⟩ := Kd.R_form HO_6.out (by omega)
                        (first | cases eo14 | (injection eo14 with ea_ en_ ec_; (first | subst ea_ | (injection ea_ with ea_; subst ea_)); subst ec_; clear en_))
                        have GB14 := Aside0.mk gb14
                        have GG14 := Aside0.mk HG14
                        clear gb14 gl14 HG14
                        obtain ⟨hx14_0, hf14_0⟩ := Kd.R_celln 0 HO_6.out (x8_2 : Int) p14 q14
                        replace p14 := eq_true p14
                        replace q14 := eq_true q14
                        have HP15 := Kd.R_putg HO_6.out (x8_2 : Int) ((wrap64 ((Int.tmod x7_2 256) + 256)) % 256)
                        go_wp2_with (first | ((with_reducible refine gate_store (t := 5) (p := 37) rfl ?_); refine store_event (t := 5) (p := 37) (v := ?vo_w16) (w1 := (wr.setCell ⟨go14, (x8_2 : Int).toNat, none⟩ (.int .u8 ((wrap64 ((Int.tmod x7_2 256) + 256)) % 256)))) ?hg ?ho ?hn ?hr ?_; (case ho => rfl); (case hg => rfl); (case hn => rfl); (case hr => first | (go_simp; done) | (go_simp; rfl)); intro w16 hw; have hg : wr.grownBy w16 (some go14) := (by rw [hw]; exact HP15.2); have hp_ : Kd.R (Kd.int .u8) 5 w16 w.heap.size (fun _ => True) (.slice (some ⟨go14, 0, none⟩) x6_2.length co14) y196 := (by rw [hw, Ny196.out]; exact HP15.1); clear HP15; have n0_ := Aside0.mk (hp_); have n1_ := Aside0.mk ((by rw [hw]; exact below_set (HB.out) GB14.out : Below w.heap.size w w16)); clear HO_6; clear HB; have HO_6 := n0_; have HB := n1_; clear n0_ n1_; clear hg hw hp_))
                        go_roundg k2
                        case measure => have := HJ2.out; have := HK2.out; omega
                        case rel => exact ⟨(y196), (wrap64 (Int.tdiv (wrap64 (x7_2 - (wrap64 ((Int.tmod x7_2 256) + 256)))) 256)), (wrap64 (x8_2 - 1)), (by first | rfl | (simp; done) | (simp [*]; done)), (by first | rfl | (simp; done) | (simp [*]; done)), H', ⟨by have := HJ2.out; have := HK2.out; omega⟩, ⟨by (with_reducible repeat (first | apply Kd.R_alloc | apply Kd.R_drewN | apply Kd.R_drew)); exact HO_6.out⟩, ⟨by repeat (first | (with_reducible first | exact HB.out | apply below_alloc | apply pw_below_drewN | apply below_drew1) | exact HB.out)⟩⟩
                      · rw [if_neg c13] at H
                        exact absurd H (by simp)
                    · rw [if_neg c12] at H
                      exact absurd H (by simp)
                  · rw [if_neg c11] at H
                    have c11b0 : decide ((Int.tmod x7_2 256) < 0) = false := decide_eq_false c11
                    clear c11
                    by_cases c17 : 0 ≤ x8_2
                    · rw [if_pos c17] at H
                      have c17b0 : decide (0 ≤ x8_2) = true := decide_eq_true c17
                      clear c17
                      by_cases c18 : x8_2 < (x6_2.length : Int)
                      · rw [if_pos c18] at H
                        have c18b0 : decide (x8_2 < (x6_2.length : Int)) = true := decide_eq_true c18
                        clear c18
                        obtain ⟨y197, hy197⟩ : ∃ y_ : List Int, y_ = (x6_2.set (x8_2 : Int).toNat ((Int.tmod x7_2 256) % 256)) := ⟨_, rfl⟩
                        replace H : (mudlarkref01_PutBinary.l0 k2 a0 y197 (wrap64 (Int.tdiv (wrap64 (x7_2 - (Int.tmod x7_2 256))) 256)) (wrap64 (x8_2 - 1))) = some (r1, r2) := by first | (rw [hy197]; with_reducible exact H) | (have H2_ := (Option.bind_some _ _).symm.trans H; rw [hy197]; with_reducible exact H2_) | (have H2_ := (Option.bind_some _ _).symm.trans H; with_reducible exact H2_) | with_reducible exact H | (rw [hy197]; exact H) | exact H
                        have Ny197 := Aside0.mk hy197
                        clear hy197
                        have H' := Aside0.mk H
                        clear H
                        have p19 : 0 ≤ (x8_2 : Int) := of_decide_eq_true (by first | (with_reducible assumption) | assumption)
                        have q19 : (x8_2 : Int) < ((x6_2.length : Int) : Int) := of_decide_eq_true (by first | (with_reducible assumption) | assumption)
                        obtain ⟨go19, co19, eo19, gb19, gl19, cl19, HG19⟩ := Kd.R_form HO_6.out (by omega)
                        (first | cases eo19 | (injection eo19 with ea_ en_ ec_; (first | subst ea_ | (injection ea_ with ea_; subst ea_)); subst ec_; clear en_))
                        have GB19 := Aside0.mk gb19
                        have GG19 := Aside0.mk HG19
                        clear gb19 gl19 HG19
                        obtain ⟨hx19_0, hf19_0⟩ := Kd.R_celln 0 HO_6.out (x8_2 : Int) p19 q19
                        replace p19 := eq_true p19
                        replace q19 := eq_true q19
                        have HP20 := Kd.R_putg HO_6.out (x8_2 : Int) ((Int.tmod x7_2 256) % 256)
                        go_wp2_with (first | ((with_reducible refine gate_store (t := 5) (p := 37) rfl ?_); refine store_event (t := 5) (p := 37) (v := ?vo_w21) (w1 := (wr.setCell ⟨go19, (x8_2 : Int).toNat, none⟩ (.int .u8 ((Int.tmod x7_2 256) % 256)))) ?hg ?ho ?hn ?hr ?_; (case ho => rfl); (case hg => rfl); (case hn => rfl); (case hr => first | (go_simp; done) | (go_simp; rfl)); intro w21 hw; have hg : wr.grownBy w21 (some go19) := (by rw [hw]; exact HP20.2); have hp_ : Kd.R (Kd.int .u8) 5 w21 w.heap.size (fun _ => True) (.slice (some ⟨go19, 0, none⟩) x6_2.length co19) y197 := (by rw [hw, Ny197.out]; exact HP20.1); clear HP20; have n0_ := Aside0.mk (hp_); have n1_ := Aside0.mk ((by rw [hw]; exact below_set (HB.out) GB19.out : Below w.heap.size w w21)); clear HO_6; clear HB; have HO_6 := n0_; have HB := n1_; clear n0_ n1_; clear hg hw hp_))
                        go_roundg k2
                        case measure => have := HJ2.out; have := HK2.out; omega
                        case rel => exact ⟨(y197), (wrap64 (Int.tdiv (wrap64 (x7_2 - (Int.tmod x7_2 256))) 256)), (wrap64 (x8_2 - 1)), (by first | rfl | (simp; done) | (simp [*]; done)), (by first | rfl | (simp; done) | (simp [*]; done)), H', ⟨by have := HJ2.out; have := HK2.out; omega⟩, ⟨by (with_reducible repeat (first | apply Kd.R_alloc | apply Kd.R_drewN | apply Kd.R_drew)); exact HO_6.out⟩, ⟨by repeat (first | (with_reducible first | exact HB.out | apply below_alloc | apply pw_below_drewN | apply below_drew1) | exact HB.out)⟩⟩
                      · rw [if_neg c18] at H
                        exact absurd H (by simp)
                    · rw [if_neg c17] at H
                      exact absurd H (by simp)
                · rw [if_neg c10] at H
                  have c10b0 : decide (0 ≤ x8_2) = false := decide_eq_false c10
                  clear c10
                  by_cases c22 : 0 < (x6_2.length : Int)
                  · rw [if_pos c22] at H
                    have c22b0 : decide (0 < (x6_2.length : Int)) = true := decide_eq_true c22
                    have c22b1 : decide (0 < x6_2.length) = true := decide_eq_true (by omega)
                    clear c22
                    obtain ⟨y199, hy199⟩ : ∃ y_ : List Int, y_ = (x6_2.set (0 : Int).toNat (((Int.tmod (rd x6_2 0) 128) + 128) % 256)) := ⟨_, rfl⟩
                    replace H : ((mudlarkref01_Binary.f k2 y199).bind fun bt200 => (if bt200.2 = true then (if bt200.1 = a0 then (some (y199, true)) else (some (([] : List Int), false))) else (some (([] : List Int), false)))) = some (r1, r2) := by first | (rw [hy199]; with_reducible exact H) | (have H2_ := (Option.bind_some _ _).symm.trans H; rw [hy199]; with_reducible exact H2_) | (have H2_ := (Option.bind_some _ _).symm.trans H; with_reducible exact H2_) | with_reducible exact H | (rw [hy199]; exact H) | exact H
                    have Ny199 := Aside0.mk hy199
                    clear hy199
                    replace H := Option.bind_eq_some_iff.mp H
                    obtain ⟨⟨t200, t201⟩, A240, H⟩ := H
                    replace H : (if t201 = true then (if t200 = a0 then (some (y199, true)) else (some (([] : List Int), false))) else (some (([] : List Int), false))) = some (r1, r2) := H
                    have A24 := Aside0.mk A240
                    clear A240
                    by_cases c25 : t201 = true
                    · subst c25
                      have H1 : (if t200 = a0 then (some (y199, true)) else (some (([] : List Int), false))) = some (r1, r2) := by rw [if_pos rfl] at H; exact H
                      clear H
                      have H := H1
                      clear H1
                      by_cases c26 : t200 = a0
                      · rw [if_pos c26] at H
                        have c26b0 : (t200 == a0) = true := beq_iff_eq.mpr c26
                        have c26b1 : (t200 != a0) = false := bne_eq_false_iff_eq.mpr c26
                        clear c26
                        simp only [Option.some.injEq, Prod.mk.injEq] at H
                        obtain ⟨rfl, rfl⟩ := H
                        obtain ⟨Ao27, co27, eo27⟩ := Kd.R_slice HO_6.out
                        subst eo27
                        have p198 : 0 ≤ (0 : Int) := (by omega)
                        have q198 : 0 < (x6_2.length : Int) := of_decide_eq_true (by first | (with_reducible assumption) | assumption)
                        obtain ⟨ad198, e198, hx198_0⟩ := Kd.at_int (Kd.R_reads' HO_6.out).2.2 0 p198 q198
                        cases e198
                        have qi198 : (0 < x6_2.length) = True := eq_true (by omega)
                        (try rw [show ((0 : Int)).toNat = 0 from rfl] at hx198_0)
                        (try rw [Addr.add_zero'] at hx198_0)
                        replace p198 := eq_true p198
                        replace q198 := eq_true q198
                        have p23 : 0 ≤ (0 : Int) := (by omega)
                        have q23 : (0 : Int) < ((x6_2.length : Int) : Int) := of_decide_eq_true (by first | (with_reducible assumption) | assumption)
                        have qi23 : (0 < x6_2.length) = True := eq_true (by omega)
                        obtain ⟨go23, co23, eo23, gb23, gl23, cl23, HG23⟩ := Kd.R_form HO_6.out (by omega)
                        (first | cases eo23 | (injection eo23 with ea_ en_ ec_; (first | subst ea_ | (injection ea_ with ea_; subst ea_)); subst ec_; clear en_))
                        have GB23 := Aside0.mk gb23
                        have GG23 := Aside0.mk HG23
                        clear gb23 gl23 HG23
                        (first | simp only [add_plain] at hx198_0 | skip)
                        obtain ⟨hx23_0, hf23_0⟩ := Kd.R_celln 0 HO_6.out (0 : Int) p23 q23
                        (try rw [show ((0 : Int)).toNat = 0 from rfl] at hx23_0)
                        (try simp only [Nat.reduceMul, Nat.zero_mul, Nat.zero_add, Nat.reduceAdd] at hx23_0)
                        (try rw [show ((0 : Int)).toNat = 0 from rfl] at hf23_0)
                        (try simp only [Nat.reduceMul, Nat.zero_mul, Nat.zero_add, Nat.reduceAdd] at hf23_0)
                        replace p23 := eq_true p23
                        replace q23 := eq_true q23
                        have HP28 := Kd.R_putg HO_6.out (0 : Int) (((Int.tmod (rd x6_2 0) 128) + 128) % 256)
                        go_wp2_with (first | ((with_reducible refine gate_store (t := 5) (p := 48) rfl ?_); refine store_event (t := 5) (p := 48) (v := ?vo_w29) (w1 := (wr.setCell ⟨go23, (0 : Int).toNat, none⟩ (.int .u8 (((Int.tmod (rd x6_2 0) 128) + 128) % 256)))) ?hg ?ho ?hn ?hr ?_; (case ho => rfl); (case hg => rfl); (case hn => rfl); (case hr => first | (go_simp; done) | (go_simp; rfl)); intro w29 hw; have hg : wr.grownBy w29 (some go23) := (by rw [hw]; exact HP28.2); have hp_ : Kd.R (Kd.int .u8) 5 w29 w.heap.size (fun _ => True) (.slice (some ⟨go23, 0, none⟩) x6_2.length co27) y199 := (by rw [hw, Ny199.out]; exact HP28.1); clear HP28; have n0_ := Aside0.mk (hp_); have n1_ := Aside0.mk ((by rw [hw]; exact below_set (HB.out) GB23.out : Below w.heap.size w w29)); clear HO_6; clear HB; have HO_6 := n0_; have HB := n1_; clear n0_ n1_; clear hg hw hp_) | ((with_reducible refine gate_callee (f := 27) rfl ?_); refine goesL_ (some 51) rfl rfl Tryd.func27 (by kernel_rfl) rfl #[.slice (some ⟨go23, 0, none⟩) y199.length co27] rfl (by (try simp only [List.map_toArray, List.map_cons, List.map_nil]); first | done | (rw [show y199.length = x6_2.length from (Kd.R_reads' HO_6.out).1.symm] <;> rfl) | rfl | (simp only [List.length_drop, List.length_take]; rfl)) ?_; (with_reducible refine (mudlarkref01_Binary.calls k2 _ _ y199 t200 true _ ?side1 ?side2 A24.out).mono ?_); (case side1 => repeat (first | exact (Kd.R_reads' HO_6.out).2.2 | (with_reducible refine Kd.C_alloc ?_ _) | (with_reducible refine Kd.C_drewN ?_ _) | (with_reducible refine Kd.C_drew ?_))); (case side2 => rw [show y199.length = x6_2.length from (Kd.R_reads' HO_6.out).1.symm]; exact (Kd.R_reads' HO_6.out).2.1); rintro e w' ⟨rfl, ⟨nd, rfl⟩⟩; refine ⟨_, rfl, ?_⟩))
                        go_ret2
                        exact ⟨_, by first | rfl | (simp [errW_none, errW_some] <;> rfl) | (simp [*, errW_none, errW_some] <;> rfl), by (with_reducible repeat (first | apply Kd.R_alloc | apply Kd.R_drewN | apply Kd.R_drew)); exact HO_6.out, by repeat (first | (with_reducible first | exact HB.out | apply below_alloc | apply pw_below_drewN | apply below_drew1) | exact HB.out)⟩
                      · rw [if_neg c26] at H
                        have c26b0 : (t200 == a0) = false := beq_eq_false_iff_ne.mpr c26
                        have c26b1 : (t200 != a0) = true := bne_iff_ne.mpr c26
                        simp only [Option.some.injEq, Prod.mk.injEq] at H
                        obtain ⟨rfl, rfl⟩ := H
                        obtain ⟨Ao30, co30, eo30⟩ := Kd.R_slice HO_6.out
                        subst eo30
                        have p198 : 0 ≤ (0 : Int) := (by omega)
                        have q198 : 0 < (x6_2.length : Int) := of_decide_eq_true (by first | (with_reducible assumption) | assumption)
                        obtain ⟨ad198, e198, hx198_0⟩ := Kd.at_int (Kd.R_reads' HO_6.out).2.2 0 p198 q198
                        cases e198
                        have qi198 : (0 < x6_2.length) = True := eq_true (by omega)
                        (try rw [show ((0 : Int)).toNat = 0 from rfl] at hx198_0)
                        (try rw [Addr.add_zero'] at hx198_0)
                        replace p198 := eq_true p198
                        replace q198 := eq_true q198
                        have p23 : 0 ≤ (0 : Int) := (by omega)
                        have q23 : (0 : Int) < ((x6_2.length : Int) : Int) := of_decide_eq_true (by first | (with_reducible assumption) | assumption)
                        have qi23 : (0 < x6_2.length) = True := eq_true (by omega)
                        obtain ⟨go23, co23, eo23, gb23, gl23, cl23, HG23⟩ := Kd.R_form HO_6.out (by omega)
                        (first | cases eo23 | (injection eo23 with ea_ en_ ec_; (first | subst ea_ | (injection ea_ with ea_; subst ea_)); subst ec_; clear en_))
                        have GB23 := Aside0.mk gb23
                        have GG23 := Aside0.mk HG23
                        clear gb23 gl23 HG23
                        (first | simp only [add_plain] at hx198_0 | skip)
                        obtain ⟨hx23_0, hf23_0⟩ := Kd.R_celln 0 HO_6.out (0 : Int) p23 q23
                        (try rw [show ((0 : Int)).toNat = 0 from rfl] at hx23_0)
                        (try simp only [Nat.reduceMul, Nat.zero_mul, Nat.zero_add, Nat.reduceAdd] at hx23_0)
                        (try rw [show ((0 : Int)).toNat = 0 from rfl] at hf23_0)
                        (try simp only [Nat.reduceMul, Nat.zero_mul, Nat.zero_add, Nat.reduceAdd] at hf23_0)
                        replace p23 := eq_true p23
                        replace q23 := eq_true q23
                        have HP31 := Kd.R_putg HO_6.out (0 : Int) (((Int.tmod (rd x6_2 0) 128) + 128) % 256)
                        go_wp2_with (first | ((with_reducible refine gate_store (t := 5) (p := 48) rfl ?_); refine store_event (t := 5) (p := 48) (v := ?vo_w32) (w1 := (wr.setCell ⟨go23, (0 : Int).toNat, none⟩ (.int .u8 (((Int.tmod (rd x6_2 0) 128) + 128) % 256)))) ?hg ?ho ?hn ?hr ?_; (case ho => rfl); (case hg => rfl); (case hn => rfl); (case hr => first | (go_simp; done) | (go_simp; rfl)); intro w32 hw; have hg : wr.grownBy w32 (some go23) := (by rw [hw]; exact HP31.2); have hp_ : Kd.R (Kd.int .u8) 5 w32 w.heap.size (fun _ => True) (.slice (some ⟨go23, 0, none⟩) x6_2.length co30) y199 := (by rw [hw, Ny199.out]; exact HP31.1); clear HP31; have n0_ := Aside0.mk (hp_); have n1_ := Aside0.mk ((by rw [hw]; exact below_set (HB.out) GB23.out : Below w.heap.size w w32)); clear HO_6; clear HB; have HO_6 := n0_; have HB := n1_; clear n0_ n1_; clear hg hw hp_) | ((with_reducible refine gate_callee (f := 27) rfl ?_); refine goesL_ (some 51) rfl rfl Tryd.func27 (by kernel_rfl) rfl #[.slice (some ⟨go23, 0, none⟩) y199.length co30] rfl (by (try simp only [List.map_toArray, List.map_cons, List.map_nil]); first | done | (rw [show y199.length = x6_2.length from (Kd.R_reads' HO_6.out).1.symm] <;> rfl) | rfl | (simp only [List.length_drop, List.length_take]; rfl)) ?_; (with_reducible refine (mudlarkref01_Binary.calls k2 _ _ y199 t200 true _ ?side1 ?side2 A24.out).mono ?_); (case side1 => repeat (first | exact (Kd.R_reads' HO_6.out).2.2 | (with_reducible refine Kd.C_alloc ?_ _) | (with_reducible refine Kd.C_drewN ?_ _) | (with_reducible refine Kd.C_drew ?_))); (case side2 => rw [show y199.length = x6_2.length from (Kd.R_reads' HO_6.out).1.symm]; exact (Kd.R_reads' HO_6.out).2.1); rintro e w' ⟨rfl, ⟨nd, rfl⟩⟩; refine ⟨_, rfl, ?_⟩))
                        go_ret2
                        exact ⟨_, by first | rfl | (simp [errW_none, errW_some] <;> rfl) | (simp [*, errW_none, errW_some] <;> rfl), by first | exact Kd.R_nil _ _ _ _ _ | exact Kd.N_nil _ _ _ _ _ | exact Kd.V_nil _ _ _ _ _ | exact Kd.Q_nil _ _ _ _ _ | exact Kd.S_nil _ _ _ _ _, by repeat (first | (with_reducible first | exact HB.out | apply below_alloc | apply pw_below_drewN | apply below_drew1) | exact HB.out)⟩
                    · replace c25 := Bool.eq_false_iff.mpr c25
                      subst c25
                      have H1 : (some (([] : List Int), false)) = some (r1, r2) := by rw [if_neg (show ¬ (false = true) by decide)] at H; exact H
                      clear H
                      have H := H1
                      clear H1
                      simp only [Option.some.injEq, Prod.mk.injEq] at H
                      obtain ⟨rfl, rfl⟩ := H
                      obtain ⟨Ao33, co33, eo33⟩ := Kd.R_slice HO_6.out
                      subst eo33
                      have p198 : 0 ≤ (0 : Int) := (by omega)
                      have q198 : 0 < (x6_2.length : Int) := of_decide_eq_true (by first | (with_reducible assumption) | assumption)
                      obtain ⟨ad198, e198, hx198_0⟩ := Kd.at_int (Kd.R_reads' HO_6.out).2.2 0 p198 q198
                      cases e198
                      have qi198 : (0 < x6_2.length) = True := eq_true (by omega)
                      (try rw [show ((0 : Int)).toNat = 0 from rfl] at hx198_0)
                      (try rw [Addr.add_zero'] at hx198_0)
                      replace p198 := eq_true p198
                      replace q198 := eq_true q198
                      have p23 : 0 ≤ (0 : Int) := (by omega)
                      have q23 : (0 : Int) < ((x6_2.length : Int) : Int) := of_decide_eq_true (by first | (with_reducible assumption) | assumption)
                      have qi23 : (0 < x6_2.length) = True := eq_true (by omega)
                      obtain ⟨go23, co23, eo23, gb23, gl23, cl23, HG23⟩ := Kd.R_form HO_6.out (by omega)
                      (first | cases eo23 | (injection eo23 with ea_ en_ ec_; (first | subst ea_ | (injection ea_ with ea_; subst ea_)); subst ec_; clear en_))
                      have GB23 := Aside0.mk gb23
                      have GG23 := Aside0.mk HG23
                      clear gb23 gl23 HG23
                      (first | simp only [add_plain] at hx198_0 | skip)
                      obtain ⟨hx23_0, hf23_0⟩ := Kd.R_celln 0 HO_6.out (0 : Int) p23 q23
                      (try rw [show ((0 : Int)).toNat = 0 from rfl] at hx23_0)
                      (try simp only [Nat.reduceMul, Nat.zero_mul, Nat.zero_add, Nat.reduceAdd] at hx23_0)
                      (try rw [show ((0 : Int)).toNat = 0 from rfl] at hf23_0)
                      (try simp only [Nat.reduceMul, Nat.zero_mul, Nat.zero_add, Nat.reduceAdd] at hf23_0)
                      replace p23 := eq_true p23
                      replace q23 := eq_true q23
                      have HP34 := Kd.R_putg HO_6.out (0 : Int) (((Int.tmod (rd x6_2 0) 128) + 128) % 256)
                      go_wp2_with (first | ((with_reducible refine gate_store (t := 5) (p := 48) rfl ?_); refine store_event (t := 5) (p := 48) (v := ?vo_w35) (w1 := (wr.setCell ⟨go23, (0 : Int).toNat, none⟩ (.int .u8 (((Int.tmod (rd x6_2 0) 128) + 128) % 256)))) ?hg ?ho ?hn ?hr ?_; (case ho => rfl); (case hg => rfl); (case hn => rfl); (case hr => first | (go_simp; done) | (go_simp; rfl)); intro w35 hw; have hg : wr.grownBy w35 (some go23) := (by rw [hw]; exact HP34.2); have hp_ : Kd.R (Kd.int .u8) 5 w35 w.heap.size (fun _ => True) (.slice (some ⟨go23, 0, none⟩) x6_2.length co33) y199 := (by rw [hw, Ny199.out]; exact HP34.1); clear HP34; have n0_ := Aside0.mk (hp_); have n1_ := Aside0.mk ((by rw [hw]; exact below_set (HB.out) GB23.out : Below w.heap.size w w35)); clear HO_6; clear HB; have HO_6 := n0_; have HB := n1_; clear n0_ n1_; clear hg hw hp_) | ((with_reducible refine gate_callee (f := 27) rfl ?_); refine goesL_ (some 51) rfl rfl Tryd.func27 (by kernel_rfl) rfl #[.slice (some ⟨go23, 0, none⟩) y199.length co33] rfl (by (try simp only [List.map_toArray, List.map_cons, List.map_nil]); first | done | (rw [show y199.length = x6_2.length from (Kd.R_reads' HO_6.out).1.symm] <;> rfl) | rfl | (simp only [List.length_drop, List.length_take]; rfl)) ?_; (with_reducible refine (mudlarkref01_Binary.calls k2 _ _ y199 t200 false _ ?side1 ?side2 A24.out).mono ?_); (case side1 => repeat (first | exact (Kd.R_reads' HO_6.out).2.2 | (with_reducible refine Kd.C_alloc ?_ _) | (with_reducible refine Kd.C_drewN ?_ _) | (with_reducible refine Kd.C_drew ?_))); (case side2 => rw [show y199.length = x6_2.length from (Kd.R_reads' HO_6.out).1.symm]; exact (Kd.R_reads' HO_6.out).2.1); rintro e w' ⟨rfl, ⟨nd, rfl⟩⟩; refine ⟨_, rfl, ?_⟩))
                      go_ret2
                      exact ⟨_, by first | rfl | (simp [errW_none, errW_some] <;> rfl) | (simp [*, errW_none, errW_some] <;> rfl), by first | exact Kd.R_nil _ _ _ _ _ | exact Kd.N_nil _ _ _ _ _ | exact Kd.V_nil _ _ _ _ _ | exact Kd.Q_nil _ _ _ _ _ | exact Kd.S_nil _ _ _ _ _, by repeat (first | (with_reducible first | exact HB.out | apply below_alloc | apply pw_below_drewN | apply below_drew1) | exact HB.out)⟩
                  · rw [if_neg c22] at H
                    exact absurd H (by simp)
          · rw [if_neg c7] at H
            exact absurd H (by simp)
        · rw [if_neg c6] at H
          exact absurd H (by simp)

/-! ### mudlarkref01_Put: function 22 -/
def mudlarkref01_Put.f (k : Nat) (a0 : Int) (a1 : Int) : Option (List Int × Bool) := (mudlarkref01_PutOctal.f k a0 a1).bind fun bt202 => (if bt202.2 = true then (some (bt202.1, true)) else ((mudlarkref01_PutBinary.f k a0 a1).bind fun bt206 => (some (bt206.1, bt206.2))))
theorem mudlarkref01_Put.mono : ∀ a0 a1 k, LeO (mudlarkref01_Put.f k a0 a1) (mudlarkref01_Put.f (k + 1) a0 a1) := by
  intro a0 a1 k
  unfold mudlarkref01_Put.f
  repeat' first
      | (with_reducible exact mudlarkref01_PutBinary.mono _ _ _)
      | (with_reducible exact mudlarkref01_PutOctal.mono _ _ _)
      | (with_reducible exact LeO.refl _)
      | (with_reducible exact LeO.none _)
      | (with_reducible refine LeO.ite ?_ ?_)
      | (with_reducible refine LeO.bind ?_ (fun _ => ?_))
      | exact mudlarkref01_PutBinary.mono _ _ _
      | exact mudlarkref01_PutOctal.mono _ _ _
      | exact LeO.none _
      | refine LeO.ite ?_ ?_
      | refine LeO.bind ?_ (fun _ => ?_)
set_option maxHeartbeats 8000000 in
set_option maxRecDepth 100000 in
theorem mudlarkref01_Put.calls (k : Nat) (a0 : Int) (a1 : Int) (r1 : List Int) (r2 : Bool) (w : World) (h : mudlarkref01_Put.f k a0 a1 = some (r1, r2)) :
    Calls Tryd.prog 22 #[.int .i64 a0, .int .i64 a1] w fun e w' => ∃ v0_ : Value, e = .returned (.tuple #[v0_, .bool r2]) ∧ Kd.R (Kd.int .u8) 5 w' w.heap.size (fun _ => True) v0_ r1 ∧ Below w.heap.size w w' := by
  have HB := Aside0.mk (Below.refl w.heap.size w)
  have H : ((mudlarkref01_PutOctal.f k a0 a1).bind fun bt202 => (if bt202.2 = true then (some (bt202.1, true)) else ((mudlarkref01_PutBinary.f k a0 a1).bind fun bt206 => (some (bt206.1, bt206.2))))) = some (r1, r2) := h
  clear h
  replace H := Option.bind_eq_some_iff.mp H
  obtain ⟨⟨t202, t203⟩, A30, H⟩ := H
  replace H : (if t203 = true then (some (t202, true)) else ((mudlarkref01_PutBinary.f k a0 a1).bind fun bt206 => (some (bt206.1, bt206.2)))) = some (r1, r2) := H
  have A3 := Aside0.mk A30
  clear A30
  by_cases c4 : t203 = true
  · subst c4
    have H1 : (some (t202, true)) = some (r1, r2) := by rw [if_pos rfl] at H; exact H
    clear H
    have H := H1
    clear H1
    simp only [Option.some.injEq, Prod.mk.injEq] at H
    obtain ⟨rfl, rfl⟩ := H
    go_enter Tryd.func22, Tryd.ntmps22
    go_wp2_with (first | ((with_reducible refine gate_callee (f := 20) rfl ?_); refine goesL_ (some 11) rfl rfl Tryd.func20 (by kernel_rfl) rfl #[.int .i64 a0, .int .i64 a1] rfl (by (try simp only [List.map_toArray, List.map_cons, List.map_nil]); first | done | rfl | (simp only [List.length_drop, List.length_take]; rfl)) ?_; (with_reducible refine (mudlarkref01_PutOctal.calls k a0 a1 t202 true _ A3.out).mono ?_); rintro e w5 ⟨v204, rfl, ho0, hb⟩; refine ⟨_, rfl, ?_⟩; have n0_ := Aside0.mk (Kd.R_lower ho0 (below_size (by repeat (first | (with_reducible first | exact HB.out | apply below_alloc | apply pw_below_drewN | apply below_drew1) | exact HB.out)))); have n1_ := Aside0.mk (below_step (by repeat (first | (with_reducible first | exact HB.out | apply below_alloc | apply pw_below_drewN | apply below_drew1) | exact HB.out)) hb); clear HB; have HO205 := n0_; have HB := n1_; clear n0_ n1_; (try clear hb); (try clear hb2); (try clear hk); (try clear hi); (try clear ho0)))
    go_ret2
    exact ⟨_, by first | rfl | (simp [errW_none, errW_some] <;> rfl) | (simp [*, errW_none, errW_some] <;> rfl), by (with_reducible repeat (first | apply Kd.R_alloc | apply Kd.R_drewN | apply Kd.R_drew)); exact HO205.out, by repeat (first | (with_reducible first | exact HB.out | apply below_alloc | apply pw_below_drewN | apply below_drew1) | exact HB.out)⟩
  · replace c4 := Bool.eq_false_iff.mpr c4
    subst c4
    have H1 : ((mudlarkref01_PutBinary.f k a0 a1).bind fun bt206 => (some (bt206.1, bt206.2))) = some (r1, r2) := by rw [if_neg (show ¬ (false = true) by decide)] at H; exact H
    clear H
    have H := H1
    clear H1
    replace H := Option.bind_eq_some_iff.mp H
    obtain ⟨⟨t206, t207⟩, A60, H⟩ := H
    replace H : (some (t206, t207)) = some (r1, r2) := H
    have A6 := Aside0.mk A60
    clear A60
    simp only [Option.some.injEq, Prod.mk.injEq] at H
    obtain ⟨rfl, rfl⟩ := H
    go_enter Tryd.func22, Tryd.ntmps22
    go_wp2_with (first | ((with_reducible refine gate_callee (f := 20) rfl ?_); refine goesL_ (some 11) rfl rfl Tryd.func20 (by kernel_rfl) rfl #[.int .i64 a0, .int .i64 a1] rfl (by (try simp only [List.map_toArray, List.map_cons, List.map_nil]); first | done | rfl | (simp only [List.length_drop, List.length_take]; rfl)) ?_; (with_reducible refine (mudlarkref01_PutOctal.calls k a0 a1 t202 false _ A3.out).mono ?_); rintro e w7 ⟨v204, rfl, ho0, hb⟩; refine ⟨_, rfl, ?_⟩; have n0_ := Aside0.mk (Kd.R_lower ho0 (below_size (by repeat (first | (with_reducible first | exact HB.out | apply below_alloc | apply pw_below_drewN | apply below_drew1) | exact HB.out)))); have n1_ := Aside0.mk (below_step (by repeat (first | (with_reducible first | exact HB.out | apply below_alloc | apply pw_below_drewN | apply below_drew1) | exact HB.out)) hb); clear HB; have HO205 := n0_; have HB := n1_; clear n0_ n1_; (try clear hb); (try clear hb2); (try clear hk); (try clear hi); (try clear ho0)) | ((with_reducible refine gate_callee (f := 21) rfl ?_); refine goesL_ (some 18) rfl rfl Tryd.func21 (by kernel_rfl) rfl #[.int .i64 a0, .int .i64 a1] rfl (by (try simp only [List.map_toArray, List.map_cons, List.map_nil]); first | done | rfl | (simp only [List.length_drop, List.length_take]; rfl)) ?_; (with_reducible refine (mudlarkref01_PutBinary.calls k a0 a1 t206 t207 _ A6.out).mono ?_); rintro e w8 ⟨v208, rfl, ho0, hb⟩; refine ⟨_, rfl, ?_⟩; have n0_ := Aside0.mk (Kd.R_elder' (by (with_reducible repeat (first | apply Kd.R_alloc | apply Kd.R_drewN | apply Kd.R_drew)); exact HO205.out) (Kd.R_base ho0) hb); have n1_ := Aside0.mk (Kd.R_lower (Kd.R_new' ho0 (Kd.R_lt (by (with_reducible repeat (first | apply Kd.R_alloc | apply Kd.R_drewN | apply Kd.R_drew)); exact HO205.out))) (below_size (by repeat (first | (with_reducible first | exact HB.out | apply below_alloc | apply pw_below_drewN | apply below_drew1) | exact HB.out)))); have n2_ := Aside0.mk (below_step (by repeat (first | (with_reducible first | exact HB.out | apply below_alloc | apply pw_below_drewN | apply below_drew1) | exact HB.out)) hb); clear HO205; clear HB; have HO205 := n0_; have HO209 := n1_; have HB := n2_; clear n0_ n1_ n2_; (try clear hb); (try clear hb2); (try clear hk); (try clear hi); (try clear ho0)))
    go_ret2
    exact ⟨_, by first | rfl | (simp [errW_none, errW_some] <;> rfl) | (simp [*, errW_none, errW_some] <;> rfl), by (with_reducible repeat (first | apply Kd.R_alloc | apply Kd.R_drewN | apply Kd.R_drew)); exact Kd.R_mono HO209.out (fun _ hk => trivial), by repeat (first | (with_reducible first | exact HB.out | apply below_alloc | apply pw_below_drewN | apply below_drew1) | exact HB.out)⟩

end Go.Proofs.YtnhaicihkmcabaaDoor.P
