/- Functions of the reference, walked (the kit's print). No conditions. The reference's parts are head's. No conditions. -/
import Derived.Test.YtkfcfbggojmfkaaGreatDoorPx0
import Derived.Test.YtkfcfbggojmfkaaGreatDoorHRefQ
import Derived.Test.YtkfcfbggojmfkaaGreatDoorHRefN
section
namespace Go.Proofs.YtkfcfbggojmfkaaGreatDoor.P
open Go.RowKit Go.Proofs.YtkfcfbggojmfkaaGreatDoorW.PrintWords Go.Proofs.YtkfcfbggojmfkaaGreatDoorW.PrintLast Go.Proofs.YtkfcfbggojmfkaaGreatDoorW.PrintMore
attribute [local go_sem] max2_int min2_int max_two min_two max_three min_three max_four min_four   -- for this text's walks alone
set_option linter.unusedVariables false
set_option linter.unusedSimpArgs false

/-! ### mudlarkref01_Parse: function 70 -/
def mudlarkref01_Parse.j0 : Nat → List Int → Bool → Option (Int × Bool)
 | 0, _, _ => none
 | k + 1, x0, x12 => if x12 = true then ((mudlarkref01_Binary.f k x0).bind fun bt113 => (some (bt113.1, bt113.2))) else ((mudlarkref01_Octal.f k x0).bind fun bt115 => (some (bt115.1, bt115.2)))
def mudlarkref01_Parse.f (k : Nat) (l0 : List Int) : Option (Int × Bool) := if (l0.length : Int) > 0 then (if 0 < (l0.length : Int) then (mudlarkref01_Parse.j0 k l0 (decide ((rd l0 0) ≥ 128))) else (none)) else (mudlarkref01_Parse.j0 k l0 false)
set_option maxHeartbeats 8000000 in
set_option maxRecDepth 100000 in
theorem mudlarkref01_Parse.calls (k : Nat) (A0 : Option Addr) (c0 : Nat) (l0 : List Int) (r1 : Int) (r2 : Bool) (w : World) (hr0 : Kd.C (Kd.int .u8) w A0 l0.length l0) (hc0 : l0.length ≤ c0) (h : mudlarkref01_Parse.f k l0 = some (r1, r2)) :
  Calls Tryz.prog 70 #[.slice A0 l0.length c0] w fun e w' => e = .returned (.tuple #[.int .i64 r1, .bool r2]) ∧ Drawn0 w w' := by
 have HR0 := Aside0.mk hr0
 have HC0 := Aside0.mk hc0
 clear hr0 hc0
 have H : (if (l0.length : Int) > 0 then (if 0 < (l0.length : Int) then (mudlarkref01_Parse.j0 k l0 (decide ((rd l0 0) ≥ 128))) else (none)) else (mudlarkref01_Parse.j0 k l0 false)) = some (r1, r2) := h
 clear h
 have HC2 := Aside0.mk H
 clear H
 go_enter Tryz.func70, Tryz.ntmps70
 go_upto_region 1 with (fail)
 go_cut [12] (fun v12 wc => ∃ (kq : Nat) (x12_1 : Bool), v12 = .bool x12_1 ∧ Aside0 (mudlarkref01_Parse.j0 kq l0 x12_1 = some (r1, r2)) ∧ Aside0 (kq ≤ k) ∧ Drawn0 w wc)
 case first =>
  have H := HC2.out
  clear HC2
  by_cases c3 : (l0.length : Int) > 0
  ·rw [if_pos c3] at H
   have c3b0 : decide (0 < (l0.length : Int)) = true := decide_eq_true c3
   have c3b1 : decide (0 < l0.length) = true := decide_eq_true (by omega)
   clear c3
   (first | rw [c3b0] | (simp only [i64_w, i32_w]; rw [c3b0]) | skip)
   by_cases c4 : 0 < (l0.length : Int)
   ·rw [if_pos c4] at H
    have c4b0 : decide (0 < (l0.length : Int)) = true := decide_eq_true c4
    have c4b1 : decide (0 < l0.length) = true := decide_eq_true (by omega)
    clear c4
    have H' := Aside0.mk H
    clear H
    have p112 : 0 ≤ (0 : Int) := (by omega)
    have q112 : 0 < (l0.length : Int) := of_decide_eq_true (by first | (with_reducible assumption) | assumption)
    obtain ⟨ad112, e112, hx112_0⟩ := Kd.at_int HR0.out 0 p112 q112
    cases e112
    have qi112 : (0 < l0.length) = True := eq_true (by omega)
    (try rw [show ((0 : Int)).toNat = 0 from rfl] at hx112_0)
    (try rw [Addr.add_zero'] at hx112_0)
    replace p112 := eq_true p112
    replace q112 := eq_true q112
    go_wp2
    go_meet
    case rel => exact ⟨_, (decide ((rd l0 0) ≥ 128)), (by first | rfl | (simp; done) | (simp [*]; done)), H', ⟨by first | omega | exact Nat.le_refl _⟩, by repeat (first | exact Drawn0.refl _ | apply Drawn0.step)⟩
   ·rw [if_neg c4] at H
    exact absurd H (by simp)
  ·rw [if_neg c3] at H
   have c3b0 : decide (0 < (l0.length : Int)) = false := decide_eq_false c3
   have c3b1 : decide (0 < l0.length) = false := decide_eq_false (by omega)
   clear c3
   (first | rw [c3b0] | (simp only [i64_w, i32_w]; rw [c3b0]) | skip)
   have H' := Aside0.mk H
   clear H
   go_wp2
   go_meet
   case rel => exact ⟨_, (false), (by first | rfl | (simp; done) | (simp [*]; done)), H', ⟨by first | omega | exact Nat.le_refl _⟩, by repeat (first | exact Drawn0.refl _ | apply Drawn0.step)⟩
 case rest =>
  clear HC2
  try clear p1
  try clear q1
  try clear hx1
  try clear qi1
  try clear p2
  try clear c3
  try clear c3b0
  try clear c3b1
  try clear c4
  try clear c4b0
  try clear c4b1
  try clear hx112_0
  try clear p112
  try clear q112
  obtain ⟨kq, x12_1, rfl, HA, HJ1, ⟨mc1, rfl⟩⟩ := hcut
  cases kq with
  | zero => exact absurd HA.out (by simp [mudlarkref01_Parse.j0])
  | succ kj1 =>
   have H := HA.out
   clear HA
   simp only [mudlarkref01_Parse.j0] at H
   by_cases c5 : x12_1 = true
   ·subst c5
    have H1 : ((mudlarkref01_Binary.f kj1 l0).bind fun bt113 => (some (bt113.1, bt113.2))) = some (r1, r2) := by rw [if_pos rfl] at H; exact H
    clear H
    have H := H1
    clear H1
    replace H := Option.bind_eq_some_iff.mp H
    obtain ⟨⟨t113, t114⟩, A60, H⟩ := H
    replace H : (some (t113, t114)) = some (r1, r2) := H
    have A6 := Aside0.mk A60
    clear A60
    simp only [Option.some.injEq, Prod.mk.injEq] at H
    obtain ⟨rfl, rfl⟩ := H
    go_wp2_with (first | ((with_reducible refine gate_callee (f := 92) rfl ?_); refine goesL_ (some 14) rfl rfl Tryz.func92 (by kernel_rfl) rfl #[.slice A0 l0.length c0] rfl (by (try simp only [List.map_toArray, List.map_cons, List.map_nil]); first | done | rfl | (simp only [List.length_drop, List.length_take]; rfl)) ?_; (with_reducible refine (mudlarkref01_Binary.calls kj1 _ _ l0 t113 t114 _ ?side1 ?side2 A6.out).mono ?_); (case side1 => repeat (first | exact HR0.out | (with_reducible refine Kd.C_alloc ?_ _) | (with_reducible refine Kd.C_drewN ?_ _) | (with_reducible refine Kd.C_drew ?_))); (case side2 => exact HC0.out); rintro e w' ⟨rfl, ⟨nd, rfl⟩⟩; refine ⟨_, rfl, ?_⟩))
    go_ret2
    exact ⟨by first | rfl | (simp; done) | (simp [*]; done), by repeat (first | exact Drawn0.refl _ | apply Drawn0.step)⟩
   ·replace c5 := Bool.eq_false_iff.mpr c5
    subst c5
    have H1 : ((mudlarkref01_Octal.f kj1 l0).bind fun bt115 => (some (bt115.1, bt115.2))) = some (r1, r2) := by rw [if_neg (show ¬ (false = true) by decide)] at H; exact H
    clear H
    have H := H1
    clear H1
    replace H := Option.bind_eq_some_iff.mp H
    obtain ⟨⟨t115, t116⟩, A70, H⟩ := H
    replace H : (some (t115, t116)) = some (r1, r2) := H
    have A7 := Aside0.mk A70
    clear A70
    simp only [Option.some.injEq, Prod.mk.injEq] at H
    obtain ⟨rfl, rfl⟩ := H
    go_wp2_with (first | ((with_reducible refine gate_callee (f := 81) rfl ?_); refine goesL_ (some 18) rfl rfl Tryz.func81 (by kernel_rfl) rfl #[.slice A0 l0.length c0] rfl (by (try simp only [List.map_toArray, List.map_cons, List.map_nil]); first | done | rfl | (simp only [List.length_drop, List.length_take]; rfl)) ?_; (with_reducible refine (mudlarkref01_Octal.calls kj1 _ _ l0 t115 t116 _ ?side1 ?side2 A7.out).mono ?_); (case side1 => repeat (first | exact HR0.out | (with_reducible refine Kd.C_alloc ?_ _) | (with_reducible refine Kd.C_drewN ?_ _) | (with_reducible refine Kd.C_drew ?_))); (case side2 => exact HC0.out); rintro e w' ⟨rfl, ⟨nd, rfl⟩⟩; refine ⟨_, rfl, ?_⟩))
    go_ret2
    exact ⟨by first | rfl | (simp; done) | (simp [*]; done), by repeat (first | exact Drawn0.refl _ | apply Drawn0.step)⟩

/-! ### mudlarkref08_Parts: function 71 -/
mutual
def mudlarkref08_Parts.l0 : Nat → List Int → Int → Int → List (S64) → Int → Option ((List (S64)) × Bool)
 | 0, _, _, _, _, _ => none
 | k + 1, x0, x1, x2, x8, x9 => if x9 < x2 then (if (wrap64 ((wrap64 (x1 + (wrap64 (24 * x9)))) + 24)) > (x0.length : Int) then (some (([] : List (S64)), false)) else (if 0 ≤ (wrap64 (x1 + (wrap64 (24 * x9)))) then (if (wrap64 (x1 + (wrap64 (24 * x9)))) ≤ (wrap64 ((wrap64 (x1 + (wrap64 (24 * x9)))) + 12)) then (if (wrap64 ((wrap64 (x1 + (wrap64 (24 * x9)))) + 12)) ≤ (x0.length : Int) then ((mudlarkref01_Parse.f k ((x0.take ((wrap64 ((wrap64 (x1 + (wrap64 (24 * x9)))) + 12)) : Int).toNat).drop ((wrap64 (x1 + (wrap64 (24 * x9)))) : Int).toNat)).bind fun bt118 => (if 0 ≤ (wrap64 ((wrap64 (x1 + (wrap64 (24 * x9)))) + 12)) then (if (wrap64 ((wrap64 (x1 + (wrap64 (24 * x9)))) + 12)) ≤ (wrap64 ((wrap64 (x1 + (wrap64 (24 * x9)))) + 24)) then (if (wrap64 ((wrap64 (x1 + (wrap64 (24 * x9)))) + 24)) ≤ (x0.length : Int) then ((mudlarkref01_Parse.f k ((x0.take ((wrap64 ((wrap64 (x1 + (wrap64 (24 * x9)))) + 24)) : Int).toNat).drop ((wrap64 ((wrap64 (x1 + (wrap64 (24 * x9)))) + 12)) : Int).toNat)).bind fun bt121 => (if bt118.2 = true then (if bt121.2 = true then (if bt118.1 < 0 then (mudlarkref08_Parts.j1 k x0 x1 x2 x8 x9 bt118.1 bt121.1 true) else (mudlarkref08_Parts.j1 k x0 x1 x2 x8 x9 bt118.1 bt121.1 (decide (bt121.1 < 0)))) else (mudlarkref08_Parts.j1 k x0 x1 x2 x8 x9 bt118.1 bt121.1 true)) else (mudlarkref08_Parts.j1 k x0 x1 x2 x8 x9 bt118.1 bt121.1 true))) else (none)) else (none)) else (none))) else (none)) else (none)) else (none))) else (some (x8, true))
def mudlarkref08_Parts.j1 : Nat → List Int → Int → Int → List (S64) → Int → Int → Int → Bool → Option ((List (S64)) × Bool)
 | 0, _, _, _, _, _, _, _, _ => none
 | k + 1, x0, x1, x2, x8, x9, x11, x13, x67 => if x67 = true then (some (([] : List (S64)), false)) else (if x11 = 0 then (if x13 = 0 then (some (x8, true)) else (if x8.length < 8796093022208 then (mudlarkref08_Parts.l0 k x0 x1 x2 (x8 ++ [(⟨x11, x13⟩ : S64)]) (wrap64 (x9 + 1))) else (none))) else (if x8.length < 8796093022208 then (mudlarkref08_Parts.l0 k x0 x1 x2 (x8 ++ [(⟨x11, x13⟩ : S64)]) (wrap64 (x9 + 1))) else (none)))
end
def mudlarkref08_Parts.f (k : Nat) (l0 : List Int) (a1 : Int) (a2 : Int) : Option ((List (S64)) × Bool) := mudlarkref08_Parts.l0 k l0 (mx 0 (mn a1 512)) (mx 0 (mn a2 21)) ([] : List (S64)) 0
set_option maxHeartbeats 8000000 in
set_option maxRecDepth 100000 in
theorem mudlarkref08_Parts.calls (k : Nat) (A0 : Option Addr) (c0 : Nat) (l0 : List Int) (a1 : Int) (a2 : Int) (r1 : List (S64)) (r2 : Bool) (w : World) (hr0 : Kd.C (Kd.int .u8) w A0 l0.length l0) (hc0 : l0.length ≤ c0) (h : mudlarkref08_Parts.f k l0 a1 a2 = some (r1, r2)) :
  Calls Tryz.prog 71 #[.slice A0 l0.length c0, .int .i64 a1, .int .i64 a2] w fun e w' => ∃ v0_ : Value, e = .returned (.tuple #[v0_, .bool r2]) ∧ Kd.R k64 64 w' w.heap.size (fun _ => True) v0_ r1 ∧ Below w.heap.size w w' := by
 have hu64 := Tryz.underlying64
 have HR0 := Aside0.mk hr0
 have HC0 := Aside0.mk hc0
 clear hr0 hc0
 have HB := Aside0.mk (Below.refl w.heap.size w)
 have H : (mudlarkref08_Parts.l0 k l0 (mx 0 (mn a1 512)) (mx 0 (mn a2 21)) ([] : List (S64)) 0) = some (r1, r2) := h
 clear h
 obtain ⟨ji4, hji4⟩ : ∃ j_ : Int, (mn a1 512) = j_ := ⟨_, rfl⟩
 replace H : (mudlarkref08_Parts.l0 k l0 (mx 0 (ji4)) (mx 0 (mn a2 21)) ([] : List (S64)) 0) = some (r1, r2) := by first | (rw [hji4] at H; exact H) | (simp only [hji4] at H ⊢; exact H)
 (try (have hji4h : ji4 ≤ 512 := by (rw [← hji4]; unfold mn; (repeat' split) <;> omega)))
 (try (have hji4g : ji4 ≤ 64 := by omega))
 have hji4_ : (if 512 < a1 then 512 else a1) = ji4 := hji4
 obtain ⟨ji5, hji5⟩ : ∃ j_ : Int, (mx 0 (ji4)) = j_ := ⟨_, rfl⟩
 replace H : (mudlarkref08_Parts.l0 k l0 ji5 (mx 0 (mn a2 21)) ([] : List (S64)) 0) = some (r1, r2) := by first | (rw [hji5] at H; exact H) | (simp only [hji5] at H ⊢; exact H)
 have hji5_ : (if 0 < (ji4) then (ji4) else 0) = ji5 := hji5
 obtain ⟨ji6, hji6⟩ : ∃ j_ : Int, (mn a2 21) = j_ := ⟨_, rfl⟩
 replace H : (mudlarkref08_Parts.l0 k l0 ji5 (mx 0 (ji6)) ([] : List (S64)) 0) = some (r1, r2) := by first | (rw [hji6] at H; exact H) | (simp only [hji6] at H ⊢; exact H)
 (try (have hji6h : ji6 ≤ 21 := by (rw [← hji6]; unfold mn; (repeat' split) <;> omega)))
 (try (have hji6g : ji6 ≤ 64 := by omega))
 have hji6_ : (if 21 < a2 then 21 else a2) = ji6 := hji6
 obtain ⟨ji7, hji7⟩ : ∃ j_ : Int, (mx 0 (ji6)) = j_ := ⟨_, rfl⟩
 replace H : (mudlarkref08_Parts.l0 k l0 ji5 ji7 ([] : List (S64)) 0) = some (r1, r2) := by first | (rw [hji7] at H; exact H) | (simp only [hji7] at H ⊢; exact H)
 have hji7_ : (if 0 < (ji6) then (ji6) else 0) = ji7 := hji7
 have H' := Aside0.mk H
 clear H
 go_enter Tryz.func71, Tryz.ntmps71
 go_wp2
 go_loopg [8, 9] k (fun kq v8 v9 w' => ∃ (x8_1 : List (S64)) (x9_1 : Int), v9 = .int .i64 x9_1 ∧ Aside0 (mudlarkref08_Parts.l0 kq l0 ji5 ji7 x8_1 x9_1 = some (r1, r2)) ∧ Aside0 (kq ≤ k) ∧ Aside0 (Kd.R k64 64 w' w.heap.size (fun _ => True) v8 x8_1) ∧ Aside0 (Below w.heap.size w w'))
 case atStart => exact ⟨(([] : List (S64))), (0), (by first | rfl | (simp; done) | (simp [*]; done)), H', ⟨Nat.le_refl _⟩, ⟨by first | exact Kd.R_nil _ _ _ _ _ | exact Kd.N_nil _ _ _ _ _ | exact Kd.V_nil _ _ _ _ _ | exact Kd.Q_nil _ _ _ _ _ | exact Kd.S_nil _ _ _ _ _⟩, ⟨by repeat (first | (with_reducible first | exact HB.out | apply below_alloc | apply pw_below_drewN | apply below_drew1) | exact HB.out)⟩⟩
 case round =>
  clear H'
  try clear p2
  try clear c7
  obtain ⟨x8_1, x9_1, rfl, HA, HK1, HO_8, HB⟩ := hrel
  cases gk with
  | zero => exact absurd HA.out (by simp [mudlarkref08_Parts.l0])
  | succ k1 =>
   have H := HA.out
   clear HA
   simp only [mudlarkref08_Parts.l0] at H
   by_cases c8 : x9_1 < ji7
   ·rw [if_pos c8] at H
    have c8b0 : decide (x9_1 < ji7) = true := decide_eq_true c8
    clear c8
    by_cases c9 : (wrap64 ((wrap64 (ji5 + (wrap64 (24 * x9_1)))) + 24)) > (l0.length : Int)
    ·rw [if_pos c9] at H
     have c9b0 : decide ((l0.length : Int) < (wrap64 ((wrap64 (ji5 + (wrap64 (24 * x9_1)))) + 24))) = true := decide_eq_true c9
     clear c9
     simp only [Option.some.injEq, Prod.mk.injEq] at H
     obtain ⟨rfl, rfl⟩ := H
     go_wp2
     go_ret2
     exact ⟨_, by first | rfl | (simp [errW_none, errW_some] <;> rfl) | (simp only [← hji4, ← hji5, ← hji6, ← hji7]; first | rfl | (simp [errW_none, errW_some] <;> rfl)) | (simp [*, errW_none, errW_some] <;> rfl), by first | exact Kd.R_nil _ _ _ _ _ | exact Kd.N_nil _ _ _ _ _ | exact Kd.V_nil _ _ _ _ _ | exact Kd.Q_nil _ _ _ _ _ | exact Kd.S_nil _ _ _ _ _, by repeat (first | (with_reducible first | exact HB.out | apply below_alloc | apply pw_below_drewN | apply below_drew1) | exact HB.out)⟩
    ·rw [if_neg c9] at H
     have c9b0 : decide ((l0.length : Int) < (wrap64 ((wrap64 (ji5 + (wrap64 (24 * x9_1)))) + 24))) = false := decide_eq_false c9
     clear c9
     obtain ⟨ji10, hji10⟩ : ∃ j_ : Int, (wrap64 (ji5 + (wrap64 (24 * x9_1)))) = j_ := ⟨_, rfl⟩
     replace H : (if 0 ≤ (ji10) then (if (ji10) ≤ (wrap64 ((ji10) + 12)) then (if (wrap64 ((ji10) + 12)) ≤ (l0.length : Int) then ((mudlarkref01_Parse.f k1 ((l0.take ((wrap64 ((ji10) + 12)) : Int).toNat).drop ((ji10) : Int).toNat)).bind fun bt118 => (if 0 ≤ (wrap64 ((ji10) + 12)) then (if (wrap64 ((ji10) + 12)) ≤ (wrap64 ((ji10) + 24)) then (if (wrap64 ((ji10) + 24)) ≤ (l0.length : Int) then ((mudlarkref01_Parse.f k1 ((l0.take ((wrap64 ((ji10) + 24)) : Int).toNat).drop ((wrap64 ((ji10) + 12)) : Int).toNat)).bind fun bt121 => (if bt118.2 = true then (if bt121.2 = true then (if bt118.1 < 0 then (mudlarkref08_Parts.j1 k1 l0 ji5 ji7 x8_1 x9_1 bt118.1 bt121.1 true) else (mudlarkref08_Parts.j1 k1 l0 ji5 ji7 x8_1 x9_1 bt118.1 bt121.1 (decide (bt121.1 < 0)))) else (mudlarkref08_Parts.j1 k1 l0 ji5 ji7 x8_1 x9_1 bt118.1 bt121.1 true)) else (mudlarkref08_Parts.j1 k1 l0 ji5 ji7 x8_1 x9_1 bt118.1 bt121.1 true))) else (none)) else (none)) else (none))) else (none)) else (none)) else (none)) = some (r1, r2) := by first | (rw [hji10] at H; exact H) | (simp only [hji10] at H ⊢; exact H)
     (try rw [hji10] at c9b0)
     have hji10w : (IntKind.i64.wrap (ji5 + (wrap64 (24 * x9_1)))) = ji10 := (i64_w _).trans hji10
     by_cases c11 : 0 ≤ (ji10)
     ·rw [if_pos c11] at H
      have c11b0 := eq_true c11
      have c11b1 : decide (0 ≤ (ji10)) = true := decide_eq_true c11
      clear c11
      by_cases c12 : (ji10) ≤ (wrap64 ((ji10) + 12))
      ·rw [if_pos c12] at H
       have c12b0 := eq_true c12
       have c12b1 : decide ((ji10) ≤ (wrap64 ((ji10) + 12))) = true := decide_eq_true c12
       by_cases c13 : (wrap64 ((ji10) + 12)) ≤ (l0.length : Int)
       ·rw [if_pos c13] at H
        have c13b0 := eq_true c13
        have c13b1 : decide ((wrap64 ((ji10) + 12)) ≤ (l0.length : Int)) = true := decide_eq_true c13
        replace H := Option.bind_eq_some_iff.mp H
        obtain ⟨⟨t118, t119⟩, A140, H⟩ := H
        replace H : (if 0 ≤ (wrap64 ((ji10) + 12)) then (if (wrap64 ((ji10) + 12)) ≤ (wrap64 ((ji10) + 24)) then (if (wrap64 ((ji10) + 24)) ≤ (l0.length : Int) then ((mudlarkref01_Parse.f k1 ((l0.take ((wrap64 ((ji10) + 24)) : Int).toNat).drop ((wrap64 ((ji10) + 12)) : Int).toNat)).bind fun bt121 => (if t119 = true then (if bt121.2 = true then (if t118 < 0 then (mudlarkref08_Parts.j1 k1 l0 ji5 ji7 x8_1 x9_1 t118 bt121.1 true) else (mudlarkref08_Parts.j1 k1 l0 ji5 ji7 x8_1 x9_1 t118 bt121.1 (decide (bt121.1 < 0)))) else (mudlarkref08_Parts.j1 k1 l0 ji5 ji7 x8_1 x9_1 t118 bt121.1 true)) else (mudlarkref08_Parts.j1 k1 l0 ji5 ji7 x8_1 x9_1 t118 bt121.1 true))) else (none)) else (none)) else (none)) = some (r1, r2) := H
        have A14 := Aside0.mk A140
        clear A140
        obtain ⟨ji15, hji15⟩ : ∃ j_ : Int, (wrap64 ((ji10) + 12)) = j_ := ⟨_, rfl⟩
        replace H : (if 0 ≤ (ji15) then (if (ji15) ≤ (wrap64 ((ji10) + 24)) then (if (wrap64 ((ji10) + 24)) ≤ (l0.length : Int) then ((mudlarkref01_Parse.f k1 ((l0.take ((wrap64 ((ji10) + 24)) : Int).toNat).drop ((ji15) : Int).toNat)).bind fun bt121 => (if t119 = true then (if bt121.2 = true then (if t118 < 0 then (mudlarkref08_Parts.j1 k1 l0 ji5 ji7 x8_1 x9_1 t118 bt121.1 true) else (mudlarkref08_Parts.j1 k1 l0 ji5 ji7 x8_1 x9_1 t118 bt121.1 (decide (bt121.1 < 0)))) else (mudlarkref08_Parts.j1 k1 l0 ji5 ji7 x8_1 x9_1 t118 bt121.1 true)) else (mudlarkref08_Parts.j1 k1 l0 ji5 ji7 x8_1 x9_1 t118 bt121.1 true))) else (none)) else (none)) else (none)) = some (r1, r2) := by first | (rw [hji15] at H; exact H) | (simp only [hji15] at H ⊢; exact H)
        (try rw [hji15] at c12b0)
        (try rw [hji15] at c12b1)
        (try rw [hji15] at c12)
        (try rw [hji15] at c13b0)
        (try rw [hji15] at c13b1)
        (try rw [hji15] at c13)
        (try rw [hji15] at A14)
        have hji15w : (IntKind.i64.wrap ((ji10) + 12)) = ji15 := (i64_w _).trans hji15
        by_cases c16 : 0 ≤ (ji15)
        ·rw [if_pos c16] at H
         have c16b0 := eq_true c16
         have c16b1 : decide (0 ≤ (ji15)) = true := decide_eq_true c16
         clear c16
         by_cases c17 : (ji15) ≤ (wrap64 ((ji10) + 24))
         ·rw [if_pos c17] at H
          have c17b0 := eq_true c17
          have c17b1 : decide ((ji15) ≤ (wrap64 ((ji10) + 24))) = true := decide_eq_true c17
          by_cases c18 : (wrap64 ((ji10) + 24)) ≤ (l0.length : Int)
          ·rw [if_pos c18] at H
           have c18b0 := eq_true c18
           have c18b1 : decide ((wrap64 ((ji10) + 24)) ≤ (l0.length : Int)) = true := decide_eq_true c18
           replace H := Option.bind_eq_some_iff.mp H
           obtain ⟨⟨t121, t122⟩, A190, H⟩ := H
           replace H : (if t119 = true then (if t122 = true then (if t118 < 0 then (mudlarkref08_Parts.j1 k1 l0 ji5 ji7 x8_1 x9_1 t118 t121 true) else (mudlarkref08_Parts.j1 k1 l0 ji5 ji7 x8_1 x9_1 t118 t121 (decide (t121 < 0)))) else (mudlarkref08_Parts.j1 k1 l0 ji5 ji7 x8_1 x9_1 t118 t121 true)) else (mudlarkref08_Parts.j1 k1 l0 ji5 ji7 x8_1 x9_1 t118 t121 true)) = some (r1, r2) := H
           have A19 := Aside0.mk A190
           clear A190
           have HC20 := Aside0.mk H
           clear H
           obtain ⟨i021, hi021, _, hsz21, _⟩ := info_parts info5
           obtain ⟨A21, hcut21, hA21, hC21⟩ := print_mid_of (P := Tryz.prog) (Value.int .u8) 0 22 5 .i64 .i64 Tryz.underlying22 hi021 hsz21 A0 c0 l0 (ji10) (ji15) (of_decide_eq_true (by first | (with_reducible assumption) | assumption)) (by first | omega | exact of_decide_eq_true (by first | (with_reducible assumption) | assumption)) (of_decide_eq_true (by first | (with_reducible assumption) | assumption)) HC0.out
           have HR117 := Aside0.mk (Kd.C_of_reads (h1 := fun _ => rfl) (hA21 _ (Kd.reads_of_C HR0.out)))
           have HC117 := Aside0.mk hC21
           clear hA21 hC21 hi021 hsz21
           go_upto_region 12 with (first | ((with_reducible refine gate_callee (f := 70) rfl ?_); refine goesL_ (some 41) rfl rfl Tryz.func70 (by kernel_rfl) rfl #[.slice A21 ((l0.take ((ji15) : Int).toNat).drop ((ji10) : Int).toNat).length (c0 - (ji10).toNat)] rfl (by (try simp only [List.map_toArray, List.map_cons, List.map_nil]); first | done | (rw [show ((l0.take ((ji15) : Int).toNat).drop ((ji10) : Int).toNat).length = ((ji15).toNat - (ji10).toNat) from (by rw [List.length_drop, List.length_take]; have h_ : ((ji15) : Int) ≤ (l0.length : Int) := of_decide_eq_true (by first | (with_reducible assumption) | assumption); omega)] <;> rfl) | (simp only [hji10, hji15]; rfl) | rfl | (simp only [List.length_drop, List.length_take]; rfl)) ?_; (with_reducible refine (mudlarkref01_Parse.calls k1 _ _ ((l0.take ((ji15) : Int).toNat).drop ((ji10) : Int).toNat) t118 t119 _ ?side1 ?side2 A14.out).mono ?_); (case side1 => repeat (first | exact (Kd.C_below HR117.out HB.out) | (with_reducible refine Kd.C_alloc ?_ _) | (with_reducible refine Kd.C_drewN ?_ _) | (with_reducible refine Kd.C_drew ?_))); (case side2 => exact HC117.out); rintro e w' ⟨rfl, ⟨nd, rfl⟩⟩; refine ⟨_, rfl, ?_⟩; obtain ⟨i022, hi022, _, hsz22, _⟩ := info_parts info5; obtain ⟨A22, hcut22, hA22, hC22⟩ := print_mid_of (P := Tryz.prog) (Value.int .u8) 0 22 5 .i64 .i64 Tryz.underlying22 hi022 hsz22 A0 c0 l0 (ji15) (wrap64 ((ji10) + 24)) (of_decide_eq_true (by first | (with_reducible assumption) | assumption)) (by first | omega | exact of_decide_eq_true (by first | (with_reducible assumption) | assumption)) (of_decide_eq_true (by first | (with_reducible assumption) | assumption)) HC0.out; have HR120 := Aside0.mk (Kd.C_of_reads (h1 := fun _ => rfl) (hA22 _ (Kd.reads_of_C HR0.out))); have HC120 := Aside0.mk hC22; clear hA22 hC22 hi022 hsz22) | ((with_reducible refine gate_callee (f := 70) rfl ?_); refine goesL_ (some 51) rfl rfl Tryz.func70 (by kernel_rfl) rfl #[.slice A22 ((l0.take ((wrap64 ((ji10) + 24)) : Int).toNat).drop ((ji15) : Int).toNat).length (c0 - (ji15).toNat)] rfl (by (try simp only [List.map_toArray, List.map_cons, List.map_nil]); first | done | (rw [show ((l0.take ((wrap64 ((ji10) + 24)) : Int).toNat).drop ((ji15) : Int).toNat).length = ((wrap64 ((ji10) + 24)).toNat - (ji15).toNat) from (by rw [List.length_drop, List.length_take]; have h_ : ((wrap64 ((ji10) + 24)) : Int) ≤ (l0.length : Int) := of_decide_eq_true (by first | (with_reducible assumption) | assumption); omega)] <;> rfl) | (simp only [hji10, hji15]; rfl) | rfl | (simp only [List.length_drop, List.length_take]; rfl)) ?_; (with_reducible refine (mudlarkref01_Parse.calls k1 _ _ ((l0.take ((wrap64 ((ji10) + 24)) : Int).toNat).drop ((ji15) : Int).toNat) t121 t122 _ ?side1 ?side2 A19.out).mono ?_); (case side1 => repeat (first | exact (Kd.C_below HR120.out (by repeat (first | (with_reducible first | exact HB.out | apply below_alloc | apply pw_below_drewN | apply below_drew1) | exact HB.out))) | (with_reducible refine Kd.C_alloc ?_ _) | (with_reducible refine Kd.C_drewN ?_ _) | (with_reducible refine Kd.C_drew ?_))); (case side2 => exact HC120.out); rintro e w' ⟨rfl, ⟨nd, rfl⟩⟩; refine ⟨_, rfl, ?_⟩))
           (try simp only [Act.put, List.setIfInBounds_toArray, List.set_cons_zero, List.set_cons_succ])
           go_cut [67] (fun v67 wc => ∃ (kq : Nat) (x67_19 : Bool), v67 = .bool x67_19 ∧ Aside0 (mudlarkref08_Parts.j1 kq l0 ji5 ji7 x8_1 x9_1 t118 t121 x67_19 = some (r1, r2)) ∧ Aside0 (kq ≤ k1) ∧ Aside0 (Kd.R k64 64 wc w.heap.size (fun _ => True) u8 x8_1) ∧ Aside0 (Below w.heap.size w wc))
           case first =>
            have H := HC20.out
            clear HC20
            by_cases c23 : t119 = true
            ·subst c23
             have H1 : (if t122 = true then (if t118 < 0 then (mudlarkref08_Parts.j1 k1 l0 ji5 ji7 x8_1 x9_1 t118 t121 true) else (mudlarkref08_Parts.j1 k1 l0 ji5 ji7 x8_1 x9_1 t118 t121 (decide (t121 < 0)))) else (mudlarkref08_Parts.j1 k1 l0 ji5 ji7 x8_1 x9_1 t118 t121 true)) = some (r1, r2) := by rw [if_pos rfl] at H; exact H
             clear H
             have H := H1
             clear H1
             by_cases c24 : t122 = true
             ·subst c24
              have H1 : (if t118 < 0 then (mudlarkref08_Parts.j1 k1 l0 ji5 ji7 x8_1 x9_1 t118 t121 true) else (mudlarkref08_Parts.j1 k1 l0 ji5 ji7 x8_1 x9_1 t118 t121 (decide (t121 < 0)))) = some (r1, r2) := by rw [if_pos rfl] at H; exact H
              clear H
              have H := H1
              clear H1
              by_cases c25 : t118 < 0
              ·rw [if_pos c25] at H
               have c25b0 : decide (t118 < 0) = true := decide_eq_true c25
               clear c25
               (first | rw [c25b0] | (simp only [i64_w, i32_w]; rw [c25b0]) | skip)
               have H' := Aside0.mk H
               clear H
               go_wp2
               go_meet
               case rel => exact ⟨_, (true), (by first | rfl | (simp; done) | (simp [*]; done)), H', ⟨by have := HK1.out; first | omega | exact Nat.le_refl _⟩, ⟨by (with_reducible repeat (first | apply Kd.R_alloc | apply Kd.R_drewN | apply Kd.R_drew)); exact HO_8.out⟩, ⟨by repeat (first | (with_reducible first | exact HB.out | apply below_alloc | apply pw_below_drewN | apply below_drew1) | exact HB.out)⟩⟩
              ·rw [if_neg c25] at H
               have c25b0 : decide (t118 < 0) = false := decide_eq_false c25
               clear c25
               (first | rw [c25b0] | (simp only [i64_w, i32_w]; rw [c25b0]) | skip)
               have H' := Aside0.mk H
               clear H
               go_wp2
               go_meet
               case rel => exact ⟨_, (decide (t121 < 0)), (by first | rfl | (simp; done) | (simp [*]; done)), H', ⟨by have := HK1.out; first | omega | exact Nat.le_refl _⟩, ⟨by (with_reducible repeat (first | apply Kd.R_alloc | apply Kd.R_drewN | apply Kd.R_drew)); exact HO_8.out⟩, ⟨by repeat (first | (with_reducible first | exact HB.out | apply below_alloc | apply pw_below_drewN | apply below_drew1) | exact HB.out)⟩⟩
             ·replace c24 := Bool.eq_false_iff.mpr c24
              subst c24
              have H1 : (mudlarkref08_Parts.j1 k1 l0 ji5 ji7 x8_1 x9_1 t118 t121 true) = some (r1, r2) := by rw [if_neg (show ¬ (false = true) by decide)] at H; exact H
              clear H
              have H := H1
              clear H1
              have H' := Aside0.mk H
              clear H
              go_wp2
              go_meet
              case rel => exact ⟨_, (true), (by first | rfl | (simp; done) | (simp [*]; done)), H', ⟨by have := HK1.out; first | omega | exact Nat.le_refl _⟩, ⟨by (with_reducible repeat (first | apply Kd.R_alloc | apply Kd.R_drewN | apply Kd.R_drew)); exact HO_8.out⟩, ⟨by repeat (first | (with_reducible first | exact HB.out | apply below_alloc | apply pw_below_drewN | apply below_drew1) | exact HB.out)⟩⟩
            ·replace c23 := Bool.eq_false_iff.mpr c23
             subst c23
             have H1 : (mudlarkref08_Parts.j1 k1 l0 ji5 ji7 x8_1 x9_1 t118 t121 true) = some (r1, r2) := by rw [if_neg (show ¬ (false = true) by decide)] at H; exact H
             clear H
             have H := H1
             clear H1
             have H' := Aside0.mk H
             clear H
             go_wp2
             go_meet
             case rel => exact ⟨_, (true), (by first | rfl | (simp; done) | (simp [*]; done)), H', ⟨by have := HK1.out; first | omega | exact Nat.le_refl _⟩, ⟨by (with_reducible repeat (first | apply Kd.R_alloc | apply Kd.R_drewN | apply Kd.R_drew)); exact HO_8.out⟩, ⟨by repeat (first | (with_reducible first | exact HB.out | apply below_alloc | apply pw_below_drewN | apply below_drew1) | exact HB.out)⟩⟩
           case rest =>
            clear HC20
            try clear c1
            try clear c2
            try clear p2
            try clear p6
            try clear c7
            try clear c8
            try clear c8b0
            try clear c9
            try clear c9b0
            try clear c11
            try clear c11b0
            try clear c11b1
            try clear c12
            try clear c12b0
            try clear c12b1
            try clear c13
            try clear c13b0
            try clear c13b1
            try clear c16
            try clear c16b0
            try clear c16b1
            try clear c17
            try clear c17b0
            try clear c17b1
            try clear c18
            try clear c18b0
            try clear c18b1
            try clear c23
            try clear c24
            try clear c25
            try clear c25b0
            try clear p2
            obtain ⟨kq, x67_19, rfl, HA, HJ19, HO_8, HB⟩ := hcut
            cases kq with
            | zero => exact absurd HA.out (by simp [mudlarkref08_Parts.j1])
            | succ kj19 =>
             have H := HA.out
             clear HA
             simp only [mudlarkref08_Parts.j1] at H
             by_cases c26 : x67_19 = true
             ·subst c26
              have H1 : (some (([] : List (S64)), false)) = some (r1, r2) := by rw [if_pos rfl] at H; exact H
              clear H
              have H := H1
              clear H1
              simp only [Option.some.injEq, Prod.mk.injEq] at H
              obtain ⟨rfl, rfl⟩ := H
              go_wp2
              go_ret2
              exact ⟨_, by first | rfl | (simp [errW_none, errW_some] <;> rfl) | (simp only [← hji4, ← hji5, ← hji6, ← hji7, ← hji10, ← hji15]; first | rfl | (simp [errW_none, errW_some] <;> rfl)) | (simp [*, errW_none, errW_some] <;> rfl), by first | exact Kd.R_nil _ _ _ _ _ | exact Kd.N_nil _ _ _ _ _ | exact Kd.V_nil _ _ _ _ _ | exact Kd.Q_nil _ _ _ _ _ | exact Kd.S_nil _ _ _ _ _, by repeat (first | (with_reducible first | exact HB.out | apply below_alloc | apply pw_below_drewN | apply below_drew1) | exact HB.out)⟩
             ·replace c26 := Bool.eq_false_iff.mpr c26
              subst c26
              have H1 : (if t118 = 0 then (if t121 = 0 then (some (x8_1, true)) else (if x8_1.length < 8796093022208 then (mudlarkref08_Parts.l0 kj19 l0 ji5 ji7 (x8_1 ++ [(⟨t118, t121⟩ : S64)]) (wrap64 (x9_1 + 1))) else (none))) else (if x8_1.length < 8796093022208 then (mudlarkref08_Parts.l0 kj19 l0 ji5 ji7 (x8_1 ++ [(⟨t118, t121⟩ : S64)]) (wrap64 (x9_1 + 1))) else (none))) = some (r1, r2) := by rw [if_neg (show ¬ (false = true) by decide)] at H; exact H
              clear H
              have H := H1
              clear H1
              by_cases c27 : t118 = 0
              ·rw [if_pos c27] at H
               have c27b0 : (t118 == 0) = true := beq_iff_eq.mpr c27
               have c27b1 : (t118 != 0) = false := bne_eq_false_iff_eq.mpr c27
               clear c27
               by_cases c28 : t121 = 0
               ·rw [if_pos c28] at H
                have c28b0 : (t121 == 0) = true := beq_iff_eq.mpr c28
                have c28b1 : (t121 != 0) = false := bne_eq_false_iff_eq.mpr c28
                clear c28
                simp only [Option.some.injEq, Prod.mk.injEq] at H
                obtain ⟨rfl, rfl⟩ := H
                go_wp2
                go_ret2
                exact ⟨_, by first | rfl | (simp [errW_none, errW_some] <;> rfl) | (simp only [← hji4, ← hji5, ← hji6, ← hji7, ← hji10, ← hji15]; first | rfl | (simp [errW_none, errW_some] <;> rfl)) | (simp [*, errW_none, errW_some] <;> rfl), by (with_reducible repeat (first | apply Kd.R_alloc | apply Kd.R_drewN | apply Kd.R_drew)); exact HO_8.out, by repeat (first | (with_reducible first | exact HB.out | apply below_alloc | apply pw_below_drewN | apply below_drew1) | exact HB.out)⟩
               ·rw [if_neg c28] at H
                have c28b0 : (t121 == 0) = false := beq_eq_false_iff_ne.mpr c28
                have c28b1 : (t121 != 0) = true := bne_iff_ne.mpr c28
                by_cases c29 : x8_1.length < 8796093022208
                ·rw [if_pos c29] at H
                 have LMc29 := Aside0.mk c29
                 clear c29
                 obtain ⟨y123, hy123⟩ : ∃ y_ : List (S64), y_ = (x8_1 ++ [(⟨t118, t121⟩ : S64)]) := ⟨_, rfl⟩
                 replace H : (mudlarkref08_Parts.l0 kj19 l0 ji5 ji7 y123 (wrap64 (x9_1 + 1))) = some (r1, r2) := by first | (rw [hy123]; with_reducible exact H) | (have H2_ := (Option.bind_some _ _).symm.trans H; rw [hy123]; with_reducible exact H2_) | (have H2_ := (Option.bind_some _ _).symm.trans H; with_reducible exact H2_) | with_reducible exact H | (rw [hy123]; exact H) | exact H
                 have Ny123 := Aside0.mk hy123
                 clear hy123
                 have H' := Aside0.mk H
                 clear H
                 go_wp2_with (first | ((with_reducible refine gate_builtin (b := .append) (xs := #[.tmp 75, .tmp 79]) rfl ?_); at_builtin; refine Kd.R_append k64 (w0 := w) w.heap.size rfl (.tmp 75) (.tmp 79) 29 64 (.agg #[(.int .i64 0), (.int .i64 0)]) 16 rfl Tryz.underlying29 info64 rfl (by decide) (by omega) u8 x8_1 (⟨t118, t121⟩ : S64) [.int .i64 t118, .int .i64 t121] (fun _ => True) (fun _ => False) rfl rfl ?aP (fun _ hk => hk.elim) ?aF ?aO ?aB ?aS ?aL ?_; (case aP => exact k64_mkM _ _ _ (⟨t118, t121⟩ : S64)); (case aB => exact (by repeat (first | (with_reducible first | exact HB.out | apply below_alloc | apply pw_below_drewN | apply below_drew1) | exact HB.out))); (case aF => exact (fun _ _ => trivial)); (case aO => exact (by (with_reducible repeat (first | apply Kd.R_alloc | apply Kd.R_drewN | apply Kd.R_drew)); exact HO_8.out)); (case aS => exact (below_size (by repeat (first | (with_reducible first | exact HB.out | apply below_alloc | apply pw_below_drewN | apply below_drew1) | exact HB.out)))); (case aL => have := LMc29.out; omega); intro v124 w30 ho hb hg hat; rw [← Ny123.out] at ho; have n0_ := Aside0.mk (hb); have n1_ := Aside0.mk (ho); clear HB; clear HO_8; have HB := n0_; have HO125 := n1_; clear n0_ n1_; clear ho hb hg hat))
                 go_roundg kj19
                 case measure => have := HK1.out; have := HJ19.out; omega
                 case rel => exact ⟨(y123), (wrap64 (x9_1 + 1)), (by first | rfl | (simp; done) | (simp [*]; done)), H', ⟨by have := HK1.out; have := HJ19.out; omega⟩, ⟨by (with_reducible repeat (first | apply Kd.R_alloc | apply Kd.R_drewN | apply Kd.R_drew)); exact HO125.out⟩, ⟨by repeat (first | (with_reducible first | exact HB.out | apply below_alloc | apply pw_below_drewN | apply below_drew1) | exact HB.out)⟩⟩
                ·rw [if_neg c29] at H
                 exact absurd H (by simp)
              ·rw [if_neg c27] at H
               have c27b0 : (t118 == 0) = false := beq_eq_false_iff_ne.mpr c27
               have c27b1 : (t118 != 0) = true := bne_iff_ne.mpr c27
               by_cases c31 : x8_1.length < 8796093022208
               ·rw [if_pos c31] at H
                have LMc31 := Aside0.mk c31
                clear c31
                obtain ⟨y126, hy126⟩ : ∃ y_ : List (S64), y_ = (x8_1 ++ [(⟨t118, t121⟩ : S64)]) := ⟨_, rfl⟩
                replace H : (mudlarkref08_Parts.l0 kj19 l0 ji5 ji7 y126 (wrap64 (x9_1 + 1))) = some (r1, r2) := by first | (rw [hy126]; with_reducible exact H) | (have H2_ := (Option.bind_some _ _).symm.trans H; rw [hy126]; with_reducible exact H2_) | (have H2_ := (Option.bind_some _ _).symm.trans H; with_reducible exact H2_) | with_reducible exact H | (rw [hy126]; exact H) | exact H
                have Ny126 := Aside0.mk hy126
                clear hy126
                have H' := Aside0.mk H
                clear H
                go_wp2_with (first | ((with_reducible refine gate_builtin (b := .append) (xs := #[.tmp 75, .tmp 79]) rfl ?_); at_builtin; refine Kd.R_append k64 (w0 := w) w.heap.size rfl (.tmp 75) (.tmp 79) 29 64 (.agg #[(.int .i64 0), (.int .i64 0)]) 16 rfl Tryz.underlying29 info64 rfl (by decide) (by omega) u8 x8_1 (⟨t118, t121⟩ : S64) [.int .i64 t118, .int .i64 t121] (fun _ => True) (fun _ => False) rfl rfl ?aP (fun _ hk => hk.elim) ?aF ?aO ?aB ?aS ?aL ?_; (case aP => exact k64_mkM _ _ _ (⟨t118, t121⟩ : S64)); (case aB => exact (by repeat (first | (with_reducible first | exact HB.out | apply below_alloc | apply pw_below_drewN | apply below_drew1) | exact HB.out))); (case aF => exact (fun _ _ => trivial)); (case aO => exact (by (with_reducible repeat (first | apply Kd.R_alloc | apply Kd.R_drewN | apply Kd.R_drew)); exact HO_8.out)); (case aS => exact (below_size (by repeat (first | (with_reducible first | exact HB.out | apply below_alloc | apply pw_below_drewN | apply below_drew1) | exact HB.out)))); (case aL => have := LMc31.out; omega); intro v127 w32 ho hb hg hat; rw [← Ny126.out] at ho; have n0_ := Aside0.mk (hb); have n1_ := Aside0.mk (ho); clear HB; clear HO_8; have HB := n0_; have HO128 := n1_; clear n0_ n1_; clear ho hb hg hat))
                go_roundg kj19
                case measure => have := HK1.out; have := HJ19.out; omega
                case rel => exact ⟨(y126), (wrap64 (x9_1 + 1)), (by first | rfl | (simp; done) | (simp [*]; done)), H', ⟨by have := HK1.out; have := HJ19.out; omega⟩, ⟨by (with_reducible repeat (first | apply Kd.R_alloc | apply Kd.R_drewN | apply Kd.R_drew)); exact HO128.out⟩, ⟨by repeat (first | (with_reducible first | exact HB.out | apply below_alloc | apply pw_below_drewN | apply below_drew1) | exact HB.out)⟩⟩
               ·rw [if_neg c31] at H
                exact absurd H (by simp)
          ·rw [if_neg c18] at H
           exact absurd H (by simp)
         ·rw [if_neg c17] at H
          exact absurd H (by simp)
        ·rw [if_neg c16] at H
         exact absurd H (by simp)
       ·rw [if_neg c13] at H
        exact absurd H (by simp)
      ·rw [if_neg c12] at H
       exact absurd H (by simp)
     ·rw [if_neg c11] at H
      exact absurd H (by simp)
   ·rw [if_neg c8] at H
    have c8b0 : decide (x9_1 < ji7) = false := decide_eq_false c8
    clear c8
    simp only [Option.some.injEq, Prod.mk.injEq] at H
    obtain ⟨rfl, rfl⟩ := H
    go_wp2
    go_ret2
    exact ⟨_, by first | rfl | (simp [errW_none, errW_some] <;> rfl) | (simp only [← hji4, ← hji5, ← hji6, ← hji7]; first | rfl | (simp [errW_none, errW_some] <;> rfl)) | (simp [*, errW_none, errW_some] <;> rfl), by (with_reducible repeat (first | apply Kd.R_alloc | apply Kd.R_drewN | apply Kd.R_drew)); exact HO_8.out, by repeat (first | (with_reducible first | exact HB.out | apply below_alloc | apply pw_below_drewN | apply below_drew1) | exact HB.out)⟩

end Go.Proofs.YtkfcfbggojmfkaaGreatDoor.P
end

section
namespace Go.Proofs.YtkfcfbggojmfkaaGreatDoor.P
open Go.RowKit Go.Shelf Go.Lib Go.Proofs.YtkfcfbggojmfkaaGreatDoorW.PrintWords Go.Proofs.YtkfcfbggojmfkaaGreatDoorW.PrintLast Go.Proofs.YtkfcfbggojmfkaaGreatDoorW.PrintMore
set_option linter.unusedVariables false
set_option linter.unusedSimpArgs false

theorem RefParse_eq (l : List Int) (hb : Bytes l) (hl : l.length < 9223372036854775807) : Ev (fun k => mudlarkref01_Parse.f k l) (parseF l) := by
 have hyes : Ev (fun k => mudlarkref01_Parse.j0 k l true) (binF l) := by
  refine Ev.step (f := fun k => (mudlarkref01_Binary.f k l).bind fun t => some (t.1, t.2)) (fun k => by simp only [mudlarkref01_Parse.j0, if_true]) ?_
  exact Ev.bind (RefBinary_eq l hb hl) (Ev.now _)
 have hno : Ev (fun k => mudlarkref01_Parse.j0 k l false) (octF l) := by
  refine Ev.step (f := fun k => (mudlarkref01_Octal.f k l).bind fun t => some (t.1, t.2)) (fun k => ?_) ?_
  ·simp only [mudlarkref01_Parse.j0]
   rw [if_neg (by simp)]
  ·exact Ev.bind (RefOctal_eq l hl) (Ev.now _)
 unfold parseF
 by_cases h : (l.length : Int) > 0
 ·by_cases h2 : rd l 0 ≥ 128
  ·rw [if_pos ⟨h, h2⟩]
   refine Ev.congr (fun k => ?_) hyes
   unfold mudlarkref01_Parse.f
   rw [if_pos h, if_pos h, decide_eq_true h2]
  ·rw [if_neg (fun q => h2 q.2)]
   refine Ev.congr (fun k => ?_) hno
   unfold mudlarkref01_Parse.f
   rw [if_pos h, if_pos h, decide_eq_false h2]
 ·rw [if_neg (fun q => h q.1)]
  refine Ev.congr (fun k => ?_) hno
  unfold mudlarkref01_Parse.f
  rw [if_neg h]
theorem w_mul24 (i : Nat) (h : i ≤ 21) : wrap64 (24 * (i : Int)) = 24 * (i : Int) := wrap64_id _ (by omega) (by omega)
theorem w_at24 (a i m : Nat) (ha : a ≤ 512) (h : i ≤ 21) (hm : m = a + 24 * i) : wrap64 ((a : Int) + 24 * (i : Int)) = (m : Int) := by rw [wrap64_id _ (by omega) (by omega)]; omega
theorem w_p24 (m : Nat) (h : m ≤ 4611686018427387904) : wrap64 ((m : Int) + 24) = ((m + 24 : Nat) : Int) := by rw [wrap64_id _ (by omega) (by omega)]; omega
theorem w_p12 (m : Nat) (h : m ≤ 4611686018427387904) : wrap64 ((m : Int) + 12) = ((m + 12 : Nat) : Int) := by rw [wrap64_id _ (by omega) (by omega)]; omega
theorem w_p1 (m : Nat) (h : m ≤ 4611686018427387904) : wrap64 ((m : Int) + 1) = ((m + 1 : Nat) : Int) := by rw [wrap64_id _ (by omega) (by omega)]; omega
set_option maxHeartbeats 1000000 in
theorem ref_l0 (l : List Int) (hb : Bytes l) (hl : l.length ≤ 4611686018427387904) (a N : Nat) (ha : a ≤ 512) (hN : N ≤ 21) : ∀ (d i : Nat) (out : List S64), i + d = N → out.length ≤ i → Ev (fun k => mudlarkref08_Parts.l0 k l (a : Int) (N : Int) out (i : Int)) (partsM d (l.drop (a + 24 * i)) out)
 | 0, i, out, hd, ho => by
  refine Ev.step (f := fun _ => some (out, true)) (fun k => ?_) (Ev.now _)
  simp only [mudlarkref08_Parts.l0]
  rw [if_neg (by omega)]
 | d + 1, i, out, hd, ho => by
  have hj : ∀ x y, Ev (fun k => mudlarkref08_Parts.j1 k l (a : Int) (N : Int) out (i : Int) x y true) ([], false) := fun x y => Ev.step (f := fun _ => some ([], false)) (fun k => by simp only [mudlarkref08_Parts.j1]; rw [if_pos trivial]) (Ev.now _)
  have hi : i ≤ 21 := by omega
  obtain ⟨m, hm⟩ : ∃ m, m = a + 24 * i := ⟨_, rfl⟩
  have hm9 : m ≤ 4611686018427387904 := by omega
  have hdl : (l.drop m).length = l.length - m := List.length_drop
  rw [← hm]
  unfold partsM
  by_cases c1 : (l.drop m).length < 24
  ·rw [if_pos c1]
   refine Ev.step (f := fun _ => some ([], false)) (fun k => ?_) (Ev.now _)
   simp only [mudlarkref08_Parts.l0]
   rw [if_pos (by omega), w_mul24 i hi, w_at24 a i m ha hi hm, w_p24 m hm9, if_pos (by omega)]
  ·rw [if_neg c1]
   have hd24 : (l.drop m).drop 24 = l.drop (a + 24 * (i + 1)) := by rw [List.drop_drop]; congr 1; omega
   have s1 : (l.take (m + 12)).drop m = (l.drop m).take 12 := by rw [List.drop_take]; congr 1; omega
   have s2 : (l.take (m + 24)).drop (m + 12) = ((l.drop m).take 24).drop 12 := by rw [List.drop_take, List.drop_take, List.drop_drop]; congr 1; omega
   have ih := ref_l0 l hb hl a N ha hN d (i + 1)
   rw [← hd24] at ih
   have p1 := RefParse_eq ((l.drop m).take 12) ((hb.drop m).take 12) (by rw [List.length_take]; omega)
   have p2 := RefParse_eq (((l.drop m).take 24).drop 12) (((hb.drop m).take 24).drop 12) (by rw [List.length_drop, List.length_take]; omega)
   generalize parseF ((l.drop m).take 12) = q1 at p1 ⊢
   generalize parseF (((l.drop m).take 24).drop 12) = q2 at p2 ⊢
   obtain ⟨x, okx⟩ := q1
   obtain ⟨y, oky⟩ := q2
   refine Ev.step (f := fun k => (mudlarkref01_Parse.f k ((l.drop m).take 12)).bind fun bt223 => ((mudlarkref01_Parse.f k (((l.drop m).take 24).drop 12)).bind fun bt226 => (if bt223.2 = true then (if bt226.2 = true then (if bt223.1 < 0 then (mudlarkref08_Parts.j1 k l (a : Int) (N : Int) out (i : Int) bt223.1 bt226.1 true) else (mudlarkref08_Parts.j1 k l (a : Int) (N : Int) out (i : Int) bt223.1 bt226.1 (decide (bt226.1 < 0)))) else (mudlarkref08_Parts.j1 k l (a : Int) (N : Int) out (i : Int) bt223.1 bt226.1 true)) else (mudlarkref08_Parts.j1 k l (a : Int) (N : Int) out (i : Int) bt223.1 bt226.1 true)))) (fun k => ?_) ?_
   ·simp only [mudlarkref08_Parts.l0]
    rw [if_pos (by omega), w_mul24 i hi, w_at24 a i m ha hi hm, w_p24 m hm9, w_p12 m hm9, if_neg (by omega), if_pos (by omega), if_pos (by omega), if_pos (by omega), Int.toNat_natCast, Int.toNat_natCast, Int.toNat_natCast, s1, s2]
    congr 1
    funext bt
    rw [if_pos (by omega), if_pos (by omega), if_pos (by omega)]
   ·refine Ev.bind p1 (Ev.bind p2 ?_)
    cases okx with
    | false =>
     rw [if_neg (by simp)]
     exact hj x y
    | true =>
     cases oky with
     | false =>
      rw [if_neg (by simp)]
      exact hj x y
     | true =>
      simp only [if_true, true_and]
      by_cases h1 : x < 0
      ·rw [if_neg (by omega)]
       simp only [if_pos h1]
       exact hj x y
      ·simp only [if_neg h1]
       by_cases h2 : y < 0
       ·rw [if_neg (by omega), decide_eq_true h2]
        exact hj x y
       ·rw [if_pos (by omega), decide_eq_false h2]
        by_cases c2 : x = 0 ∧ y = 0
        ·rw [if_pos c2]
         refine Ev.step (f := fun _ => some (out, true)) (fun k => ?_) (Ev.now _)
         simp only [mudlarkref08_Parts.j1]
         rw [if_neg (by simp), if_pos c2.1, if_pos c2.2]
        ·rw [if_neg c2]
         refine Ev.step (fun k => ?_) (ih (out ++ [⟨x, y⟩]) (by omega) (by rw [List.length_append]; simp only [List.length_cons, List.length_nil]; omega))
         simp only [mudlarkref08_Parts.j1]
         rw [if_neg (by simp), w_p1 i (by omega)]
         by_cases c3 : x = 0
         ·rw [if_pos c3, if_neg (fun e => c2 ⟨c3, e⟩), if_pos (by omega)]
         ·rw [if_neg c3, if_pos (by omega)]
theorem RefParts_ev (l : List Int) (hb : Bytes l) (hl : l.length ≤ 4611686018427387904) (a1 a2 : Int) : Ev (fun k => mudlarkref08_Parts.f k l a1 a2) (partsR l a1 a2) := by
 obtain ⟨a, ha, ha2⟩ := clip a1 512 (by decide)
 obtain ⟨n, hn, hn2⟩ := clip a2 21 (by decide)
 unfold partsR
 rw [ha, hn, Int.toNat_natCast, Int.toNat_natCast]
 refine Ev.congr (fun k => ?_) (ref_l0 l hb hl a n (by omega) (by omega) n 0 [] (by omega) (by simp))
 unfold mudlarkref08_Parts.f
 rw [ha, hn]
 rfl
end Go.Proofs.YtkfcfbggojmfkaaGreatDoor.P
end
