/- Lean functions with the answers of the Go functions of this seat, and for each the proof that the Go code comes to them (made by the session's program over the kit's print). No conditions. -/
import Derived.Test.YtlnbkmlidmgbaaaDoorPx0
import Derived.Test.YtlnbkmlidmgbaaaDoorPx3
import Derived.Test.YtlnbkmlidmgbaaaDoorPx8
import Derived.Test.YtlnbkmlidmgbaaaDoorPx10
namespace Go.Proofs.YtlnbkmlidmgbaaaDoor.P
open Go.RowKit Go.Proofs.YtlnbkmlidmgbaaaDoorW.PrintWords Go.Proofs.YtlnbkmlidmgbaaaDoorW.PrintLast Go.Proofs.YtlnbkmlidmgbaaaDoorW.PrintMore
attribute [local go_sem] max2_int min2_int max_two min_two max_three min_three max_four min_four   -- for this text's walks alone
set_option linter.unusedVariables false
set_option linter.unusedSimpArgs false

/-! ### mudlarkref08_Parts: function 48 -/
mutual
def mudlarkref08_Parts.l0 : Nat → List Int → Int → Int → List (S40) → Int → Option ((List (S40)) × Bool)
 | 0, _, _, _, _, _ => none
 | k + 1, x0, x1, x2, x8, x9 => if x9 < x2 then (if (wrap64 ((wrap64 (x1 + (wrap64 (24 * x9)))) + 24)) > (x0.length : Int) then (some (([] : List (S40)), false)) else (if 0 ≤ (wrap64 (x1 + (wrap64 (24 * x9)))) then (if (wrap64 (x1 + (wrap64 (24 * x9)))) ≤ (wrap64 ((wrap64 (x1 + (wrap64 (24 * x9)))) + 12)) then (if (wrap64 ((wrap64 (x1 + (wrap64 (24 * x9)))) + 12)) ≤ (x0.length : Int) then ((mudlarkref01_Parse.f k ((x0.take ((wrap64 ((wrap64 (x1 + (wrap64 (24 * x9)))) + 12)) : Int).toNat).drop ((wrap64 (x1 + (wrap64 (24 * x9)))) : Int).toNat)).bind fun bt223 => (if 0 ≤ (wrap64 ((wrap64 (x1 + (wrap64 (24 * x9)))) + 12)) then (if (wrap64 ((wrap64 (x1 + (wrap64 (24 * x9)))) + 12)) ≤ (wrap64 ((wrap64 (x1 + (wrap64 (24 * x9)))) + 24)) then (if (wrap64 ((wrap64 (x1 + (wrap64 (24 * x9)))) + 24)) ≤ (x0.length : Int) then ((mudlarkref01_Parse.f k ((x0.take ((wrap64 ((wrap64 (x1 + (wrap64 (24 * x9)))) + 24)) : Int).toNat).drop ((wrap64 ((wrap64 (x1 + (wrap64 (24 * x9)))) + 12)) : Int).toNat)).bind fun bt226 => (if bt223.2 = true then (if bt226.2 = true then (if bt223.1 < 0 then (mudlarkref08_Parts.j1 k x0 x1 x2 x8 x9 bt223.1 bt226.1 true) else (mudlarkref08_Parts.j1 k x0 x1 x2 x8 x9 bt223.1 bt226.1 (decide (bt226.1 < 0)))) else (mudlarkref08_Parts.j1 k x0 x1 x2 x8 x9 bt223.1 bt226.1 true)) else (mudlarkref08_Parts.j1 k x0 x1 x2 x8 x9 bt223.1 bt226.1 true))) else (none)) else (none)) else (none))) else (none)) else (none)) else (none))) else (some (x8, true))
def mudlarkref08_Parts.j1 : Nat → List Int → Int → Int → List (S40) → Int → Int → Int → Bool → Option ((List (S40)) × Bool)
 | 0, _, _, _, _, _, _, _, _ => none
 | k + 1, x0, x1, x2, x8, x9, x11, x13, x67 => if x67 = true then (some (([] : List (S40)), false)) else (if x11 = 0 then (if x13 = 0 then (some (x8, true)) else (if x8.length < 8796093022208 then (mudlarkref08_Parts.l0 k x0 x1 x2 (x8 ++ [(⟨x11, x13⟩ : S40)]) (wrap64 (x9 + 1))) else (none))) else (if x8.length < 8796093022208 then (mudlarkref08_Parts.l0 k x0 x1 x2 (x8 ++ [(⟨x11, x13⟩ : S40)]) (wrap64 (x9 + 1))) else (none)))
end
def mudlarkref08_Parts.f (k : Nat) (l0 : List Int) (a1 : Int) (a2 : Int) : Option ((List (S40)) × Bool) := mudlarkref08_Parts.l0 k l0 (mx 0 (mn a1 512)) (mx 0 (mn a2 21)) ([] : List (S40)) 0
theorem mudlarkref08_Parts.mono_l : ∀ k, (∀ y0 y1 y2 y3 y4, LeO (mudlarkref08_Parts.l0 k y0 y1 y2 y3 y4) (mudlarkref08_Parts.l0 (k + 1) y0 y1 y2 y3 y4)) ∧ (∀ y0 y1 y2 y3 y4 y5 y6 y7, LeO (mudlarkref08_Parts.j1 k y0 y1 y2 y3 y4 y5 y6 y7) (mudlarkref08_Parts.j1 (k + 1) y0 y1 y2 y3 y4 y5 y6 y7))
 | 0 => ⟨fun _ _ _ _ _ r h => by simp [mudlarkref08_Parts.l0] at h, fun _ _ _ _ _ _ _ _ r h => by simp [mudlarkref08_Parts.j1] at h⟩
 | k + 1 => by
  obtain ⟨ih0, ih1⟩ := mudlarkref08_Parts.mono_l k
  refine ⟨?_, ?_⟩
  ·intro y0 y1 y2 y3 y4
   unfold mudlarkref08_Parts.l0
   repeat' first
   | (with_reducible exact ih0 _ _ _ _ _)
   | (with_reducible exact ih1 _ _ _ _ _ _ _ _)
   | (with_reducible exact mudlarkref01_Parse.mono _ _)
   | (with_reducible exact LeO.refl _)
   | (with_reducible exact LeO.none _)
   | (with_reducible refine LeO.ite ?_ ?_)
   | (with_reducible refine LeO.bind ?_ (fun _ => ?_))
   | exact ih0 _ _ _ _ _
   | exact ih1 _ _ _ _ _ _ _ _
   | exact mudlarkref01_Parse.mono _ _
   | exact LeO.none _
   | refine LeO.ite ?_ ?_
   | refine LeO.bind ?_ (fun _ => ?_)
  ·intro y0 y1 y2 y3 y4 y5 y6 y7
   unfold mudlarkref08_Parts.j1
   repeat' first
   | (with_reducible exact ih0 _ _ _ _ _)
   | (with_reducible exact ih1 _ _ _ _ _ _ _ _)
   | (with_reducible exact mudlarkref01_Parse.mono _ _)
   | (with_reducible exact LeO.refl _)
   | (with_reducible exact LeO.none _)
   | (with_reducible refine LeO.ite ?_ ?_)
   | (with_reducible refine LeO.bind ?_ (fun _ => ?_))
   | exact ih0 _ _ _ _ _
   | exact ih1 _ _ _ _ _ _ _ _
   | exact mudlarkref01_Parse.mono _ _
   | exact LeO.none _
   | refine LeO.ite ?_ ?_
   | refine LeO.bind ?_ (fun _ => ?_)
theorem mudlarkref08_Parts.mono : ∀ a0 a1 a2 k, LeO (mudlarkref08_Parts.f k a0 a1 a2) (mudlarkref08_Parts.f (k + 1) a0 a1 a2) := by
 intro a0 a1 a2 k
 obtain ⟨ih0, ih1⟩ := mudlarkref08_Parts.mono_l k
 unfold mudlarkref08_Parts.f
 repeat' first
   | (with_reducible exact ih0 _ _ _ _ _)
   | (with_reducible exact ih1 _ _ _ _ _ _ _ _)
   | (with_reducible exact mudlarkref01_Parse.mono _ _)
   | (with_reducible exact LeO.refl _)
   | (with_reducible exact LeO.none _)
   | (with_reducible refine LeO.ite ?_ ?_)
   | (with_reducible refine LeO.bind ?_ (fun _ => ?_))
   | exact ih0 _ _ _ _ _
   | exact ih1 _ _ _ _ _ _ _ _
   | exact mudlarkref01_Parse.mono _ _
   | exact LeO.none _
   | refine LeO.ite ?_ ?_
   | refine LeO.bind ?_ (fun _ => ?_)
set_option maxHeartbeats 8000000 in
set_option maxRecDepth 100000 in
theorem mudlarkref08_Parts.calls (k : Nat) (A0 : Option Addr) (c0 : Nat) (l0 : List Int) (a1 : Int) (a2 : Int) (r1 : List (S40)) (r2 : Bool) (w : World) (hr0 : Kd.C (Kd.int .u8) w A0 l0.length l0) (hc0 : l0.length ≤ c0) (h : mudlarkref08_Parts.f k l0 a1 a2 = some (r1, r2)) :
  Calls Tryd.prog 48 #[.slice A0 l0.length c0, .int .i64 a1, .int .i64 a2] w fun e w' => ∃ v0_ : Value, e = .returned (.tuple #[v0_, .bool r2]) ∧ Kd.R k40 40 w' w.heap.size (fun _ => True) v0_ r1 ∧ Below w.heap.size w w' := by
 have hu40 := Tryd.underlying40
 have HR0 := Aside0.mk hr0
 have HC0 := Aside0.mk hc0
 clear hr0 hc0
 have HB := Aside0.mk (Below.refl w.heap.size w)
 have H : (mudlarkref08_Parts.l0 k l0 (mx 0 (mn a1 512)) (mx 0 (mn a2 21)) ([] : List (S40)) 0) = some (r1, r2) := h
 clear h
 obtain ⟨ji4, hji4⟩ : ∃ j_ : Int, (mn a1 512) = j_ := ⟨_, rfl⟩
 replace H : (mudlarkref08_Parts.l0 k l0 (mx 0 (ji4)) (mx 0 (mn a2 21)) ([] : List (S40)) 0) = some (r1, r2) := by first | (rw [hji4] at H; exact H) | (simp only [hji4] at H ⊢; exact H)
 (try (have hji4h : ji4 ≤ 512 := by (rw [← hji4]; unfold mn; (repeat' split) <;> omega)))
 (try (have hji4g : ji4 ≤ 64 := by omega))
 have hji4_ : (if 512 < a1 then 512 else a1) = ji4 := hji4
 obtain ⟨ji5, hji5⟩ : ∃ j_ : Int, (mx 0 (ji4)) = j_ := ⟨_, rfl⟩
 replace H : (mudlarkref08_Parts.l0 k l0 ji5 (mx 0 (mn a2 21)) ([] : List (S40)) 0) = some (r1, r2) := by first | (rw [hji5] at H; exact H) | (simp only [hji5] at H ⊢; exact H)
 have hji5_ : (if 0 < (ji4) then (ji4) else 0) = ji5 := hji5
 obtain ⟨ji6, hji6⟩ : ∃ j_ : Int, (mn a2 21) = j_ := ⟨_, rfl⟩
 replace H : (mudlarkref08_Parts.l0 k l0 ji5 (mx 0 (ji6)) ([] : List (S40)) 0) = some (r1, r2) := by first | (rw [hji6] at H; exact H) | (simp only [hji6] at H ⊢; exact H)
 (try (have hji6h : ji6 ≤ 21 := by (rw [← hji6]; unfold mn; (repeat' split) <;> omega)))
 (try (have hji6g : ji6 ≤ 64 := by omega))
 have hji6_ : (if 21 < a2 then 21 else a2) = ji6 := hji6
 obtain ⟨ji7, hji7⟩ : ∃ j_ : Int, (mx 0 (ji6)) = j_ := ⟨_, rfl⟩
 replace H : (mudlarkref08_Parts.l0 k l0 ji5 ji7 ([] : List (S40)) 0) = some (r1, r2) := by first | (rw [hji7] at H; exact H) | (simp only [hji7] at H ⊢; exact H)
 have hji7_ : (if 0 < (ji6) then (ji6) else 0) = ji7 := hji7
 have H' := Aside0.mk H
 clear H
 go_enter Tryd.func48, Tryd.ntmps48
 go_wp2
 go_loopg [8, 9] k (fun kq v8 v9 w' => ∃ (x8_1 : List (S40)) (x9_1 : Int), v9 = .int .i64 x9_1 ∧ Aside0 (mudlarkref08_Parts.l0 kq l0 ji5 ji7 x8_1 x9_1 = some (r1, r2)) ∧ Aside0 (kq ≤ k) ∧ Aside0 (Kd.R k40 40 w' w.heap.size (fun _ => True) v8 x8_1) ∧ Aside0 (Below w.heap.size w w'))
 case atStart => exact ⟨(([] : List (S40))), (0), (by first | rfl | (simp; done) | (simp [*]; done)), H', ⟨Nat.le_refl _⟩, ⟨by first | exact Kd.R_nil _ _ _ _ _ | exact Kd.N_nil _ _ _ _ _ | exact Kd.V_nil _ _ _ _ _ | exact Kd.Q_nil _ _ _ _ _ | exact Kd.S_nil _ _ _ _ _⟩, ⟨by repeat (first | (with_reducible first | exact HB.out | apply below_alloc | apply pw_below_drewN | apply below_drew1) | exact HB.out)⟩⟩
 case round =>
  clear H'
  try clear p2
  try clear c4
  obtain ⟨x8_1, x9_1, rfl, HA, HK1, HO_8, HB⟩ := hrel
  cases gk with
  | zero => exact absurd HA.out (by simp [mudlarkref08_Parts.l0])
  | succ k1 =>
   have H := HA.out
   clear HA
   simp only [mudlarkref08_Parts.l0] at H
   by_cases c8 : x9_1 < ji7
   ·rw [if_pos c8] at H
    have c8b0 : decide (x9_1 < ji7) = true := decide_eq_true c8
    clear c8
    by_cases c9 : (wrap64 ((wrap64 (ji5 + (wrap64 (24 * x9_1)))) + 24)) > (l0.length : Int)
    ·rw [if_pos c9] at H
     have c9b0 : decide ((l0.length : Int) < (wrap64 ((wrap64 (ji5 + (wrap64 (24 * x9_1)))) + 24))) = true := decide_eq_true c9
     clear c9
     simp only [Option.some.injEq, Prod.mk.injEq] at H
     obtain ⟨rfl, rfl⟩ := H
     go_wp2
     go_ret2
     exact ⟨_, by first | rfl | (simp [errW_none, errW_some] <;> rfl) | (simp only [← hji4, ← hji5, ← hji6, ← hji7]; first | rfl | (simp [errW_none, errW_some] <;> rfl)) | (simp [*, errW_none, errW_some] <;> rfl), by first | exact Kd.R_nil _ _ _ _ _ | exact Kd.N_nil _ _ _ _ _ | exact Kd.V_nil _ _ _ _ _ | exact Kd.Q_nil _ _ _ _ _ | exact Kd.S_nil _ _ _ _ _, by repeat (first | (with_reducible first | exact HB.out | apply below_alloc | apply pw_below_drewN | apply below_drew1) | exact HB.out)⟩
    ·rw [if_neg c9] at H
     have c9b0 : decide ((l0.length : Int) < (wrap64 ((wrap64 (ji5 + (wrap64 (24 * x9_1)))) + 24))) = false := decide_eq_false c9
     clear c9
     obtain ⟨ji10, hji10⟩ : ∃ j_ : Int, (wrap64 (ji5 + (wrap64 (24 * x9_1)))) = j_ := ⟨_, rfl⟩
     replace H : (if 0 ≤ (ji10) then (if (ji10) ≤ (wrap64 ((ji10) + 12)) then (if (wrap64 ((ji10) + 12)) ≤ (l0.length : Int) then ((mudlarkref01_Parse.f k1 ((l0.take ((wrap64 ((ji10) + 12)) : Int).toNat).drop ((ji10) : Int).toNat)).bind fun bt223 => (if 0 ≤ (wrap64 ((ji10) + 12)) then (if (wrap64 ((ji10) + 12)) ≤ (wrap64 ((ji10) + 24)) then (if (wrap64 ((ji10) + 24)) ≤ (l0.length : Int) then ((mudlarkref01_Parse.f k1 ((l0.take ((wrap64 ((ji10) + 24)) : Int).toNat).drop ((wrap64 ((ji10) + 12)) : Int).toNat)).bind fun bt226 => (if bt223.2 = true then (if bt226.2 = true then (if bt223.1 < 0 then (mudlarkref08_Parts.j1 k1 l0 ji5 ji7 x8_1 x9_1 bt223.1 bt226.1 true) else (mudlarkref08_Parts.j1 k1 l0 ji5 ji7 x8_1 x9_1 bt223.1 bt226.1 (decide (bt226.1 < 0)))) else (mudlarkref08_Parts.j1 k1 l0 ji5 ji7 x8_1 x9_1 bt223.1 bt226.1 true)) else (mudlarkref08_Parts.j1 k1 l0 ji5 ji7 x8_1 x9_1 bt223.1 bt226.1 true))) else (none)) else (none)) else (none))) else (none)) else (none)) else (none)) = some (r1, r2) := by first | (rw [hji10] at H; exact H) | (simp only [hji10] at H ⊢; exact H)
     (try rw [hji10] at c9b0)
     have hji10w : (IntKind.i64.wrap (ji5 + (wrap64 (24 * x9_1)))) = ji10 := (i64_w _).trans hji10
     by_cases c11 : 0 ≤ (ji10)
     ·rw [if_pos c11] at H
      have c11b0 := eq_true c11
      have c11b1 : decide (0 ≤ (ji10)) = true := decide_eq_true c11
      clear c11
      by_cases c12 : (ji10) ≤ (wrap64 ((ji10) + 12))
      ·rw [if_pos c12] at H
       have c12b0 := eq_true c12
       have c12b1 : decide ((ji10) ≤ (wrap64 ((ji10) + 12))) = true := decide_eq_true c12
       by_cases c13 : (wrap64 ((ji10) + 12)) ≤ (l0.length : Int)
       ·rw [if_pos c13] at H
        have c13b0 := eq_true c13
        have c13b1 : decide ((wrap64 ((ji10) + 12)) ≤ (l0.length : Int)) = true := decide_eq_true c13
        replace H := Option.bind_eq_some_iff.mp H
        obtain ⟨⟨t223, t224⟩, A140, H⟩ := H
        replace H : (if 0 ≤ (wrap64 ((ji10) + 12)) then (if (wrap64 ((ji10) + 12)) ≤ (wrap64 ((ji10) + 24)) then (if (wrap64 ((ji10) + 24)) ≤ (l0.length : Int) then ((mudlarkref01_Parse.f k1 ((l0.take ((wrap64 ((ji10) + 24)) : Int).toNat).drop ((wrap64 ((ji10) + 12)) : Int).toNat)).bind fun bt226 => (if t224 = true then (if bt226.2 = true then (if t223 < 0 then (mudlarkref08_Parts.j1 k1 l0 ji5 ji7 x8_1 x9_1 t223 bt226.1 true) else (mudlarkref08_Parts.j1 k1 l0 ji5 ji7 x8_1 x9_1 t223 bt226.1 (decide (bt226.1 < 0)))) else (mudlarkref08_Parts.j1 k1 l0 ji5 ji7 x8_1 x9_1 t223 bt226.1 true)) else (mudlarkref08_Parts.j1 k1 l0 ji5 ji7 x8_1 x9_1 t223 bt226.1 true))) else (none)) else (none)) else (none)) = some (r1, r2) := H
        have A14 := Aside0.mk A140
        clear A140
        obtain ⟨ji15, hji15⟩ : ∃ j_ : Int, (wrap64 ((ji10) + 12)) = j_ := ⟨_, rfl⟩
        replace H : (if 0 ≤ (ji15) then (if (ji15) ≤ (wrap64 ((ji10) + 24)) then (if (wrap64 ((ji10) + 24)) ≤ (l0.length : Int) then ((mudlarkref01_Parse.f k1 ((l0.take ((wrap64 ((ji10) + 24)) : Int).toNat).drop ((ji15) : Int).toNat)).bind fun bt226 => (if t224 = true then (if bt226.2 = true then (if t223 < 0 then (mudlarkref08_Parts.j1 k1 l0 ji5 ji7 x8_1 x9_1 t223 bt226.1 true) else (mudlarkref08_Parts.j1 k1 l0 ji5 ji7 x8_1 x9_1 t223 bt226.1 (decide (bt226.1 < 0)))) else (mudlarkref08_Parts.j1 k1 l0 ji5 ji7 x8_1 x9_1 t223 bt226.1 true)) else (mudlarkref08_Parts.j1 k1 l0 ji5 ji7 x8_1 x9_1 t223 bt226.1 true))) else (none)) else (none)) else (none)) = some (r1, r2) := by first | (rw [hji15] at H; exact H) | (simp only [hji15] at H ⊢; exact H)
        (try rw [hji15] at c12b0)
        (try rw [hji15] at c12b1)
        (try rw [hji15] at c12)
        (try rw [hji15] at c13b0)
        (try rw [hji15] at c13b1)
        (try rw [hji15] at c13)
        (try rw [hji15] at A14)
        have hji15w : (IntKind.i64.wrap ((ji10) + 12)) = ji15 := (i64_w _).trans hji15
        by_cases c16 : 0 ≤ (ji15)
        ·rw [if_pos c16] at H
         have c16b0 := eq_true c16
         have c16b1 : decide (0 ≤ (ji15)) = true := decide_eq_true c16
         clear c16
         by_cases c17 : (ji15) ≤ (wrap64 ((ji10) + 24))
         ·rw [if_pos c17] at H
          have c17b0 := eq_true c17
          have c17b1 : decide ((ji15) ≤ (wrap64 ((ji10) + 24))) = true := decide_eq_true c17
          by_cases c18 : (wrap64 ((ji10) + 24)) ≤ (l0.length : Int)
          ·rw [if_pos c18] at H
           have c18b0 := eq_true c18
           have c18b1 : decide ((wrap64 ((ji10) + 24)) ≤ (l0.length : Int)) = true := decide_eq_true c18
           replace H := Option.bind_eq_some_iff.mp H
           obtain ⟨⟨t226, t227⟩, A190, H⟩ := H
           replace H : (if t224 = true then (if t227 = true then (if t223 < 0 then (mudlarkref08_Parts.j1 k1 l0 ji5 ji7 x8_1 x9_1 t223 t226 true) else (mudlarkref08_Parts.j1 k1 l0 ji5 ji7 x8_1 x9_1 t223 t226 (decide (t226 < 0)))) else (mudlarkref08_Parts.j1 k1 l0 ji5 ji7 x8_1 x9_1 t223 t226 true)) else (mudlarkref08_Parts.j1 k1 l0 ji5 ji7 x8_1 x9_1 t223 t226 true)) = some (r1, r2) := H
           have A19 := Aside0.mk A190
           clear A190
           have HC20 := Aside0.mk H
           clear H
           obtain ⟨i021, hi021, _, hsz21, _⟩ := info_parts info5
           obtain ⟨A21, hcut21, hA21, hC21⟩ := print_mid_of (P := Tryd.prog) (Value.int .u8) 0 22 5 .i64 .i64 Tryd.underlying22 hi021 hsz21 A0 c0 l0 (ji10) (ji15) (of_decide_eq_true (by first | (with_reducible assumption) | assumption)) (by first | omega | exact of_decide_eq_true (by first | (with_reducible assumption) | assumption)) (of_decide_eq_true (by first | (with_reducible assumption) | assumption)) HC0.out
           have HR222 := Aside0.mk (Kd.C_of_reads (h1 := fun _ => rfl) (hA21 _ (Kd.reads_of_C HR0.out)))
           have HC222 := Aside0.mk hC21
           clear hA21 hC21 hi021 hsz21
           go_upto_region 12 with (first | ((with_reducible refine gate_callee (f := 63) rfl ?_); refine goesL_ (some 41) rfl rfl Tryd.func63 (by kernel_rfl) rfl #[.slice A21 ((l0.take ((ji15) : Int).toNat).drop ((ji10) : Int).toNat).length (c0 - (ji10).toNat)] rfl (by (try simp only [List.map_toArray, List.map_cons, List.map_nil]); first | done | (rw [show ((l0.take ((ji15) : Int).toNat).drop ((ji10) : Int).toNat).length = ((ji15).toNat - (ji10).toNat) from (by rw [List.length_drop, List.length_take]; have h_ : ((ji15) : Int) ≤ (l0.length : Int) := of_decide_eq_true (by first | (with_reducible assumption) | assumption); omega)] <;> rfl) | (simp only [hji10, hji15]; rfl) | rfl | (simp only [List.length_drop, List.length_take]; rfl)) ?_; (with_reducible refine (mudlarkref01_Parse.calls k1 _ _ ((l0.take ((ji15) : Int).toNat).drop ((ji10) : Int).toNat) t223 t224 _ ?side1 ?side2 A14.out).mono ?_); (case side1 => repeat (first | exact (Kd.C_below HR222.out HB.out) | (with_reducible refine Kd.C_alloc ?_ _) | (with_reducible refine Kd.C_drewN ?_ _) | (with_reducible refine Kd.C_drew ?_))); (case side2 => exact HC222.out); rintro e w' ⟨rfl, ⟨nd, rfl⟩⟩; refine ⟨_, rfl, ?_⟩; obtain ⟨i022, hi022, _, hsz22, _⟩ := info_parts info5; obtain ⟨A22, hcut22, hA22, hC22⟩ := print_mid_of (P := Tryd.prog) (Value.int .u8) 0 22 5 .i64 .i64 Tryd.underlying22 hi022 hsz22 A0 c0 l0 (ji15) (wrap64 ((ji10) + 24)) (of_decide_eq_true (by first | (with_reducible assumption) | assumption)) (by first | omega | exact of_decide_eq_true (by first | (with_reducible assumption) | assumption)) (of_decide_eq_true (by first | (with_reducible assumption) | assumption)) HC0.out; have HR225 := Aside0.mk (Kd.C_of_reads (h1 := fun _ => rfl) (hA22 _ (Kd.reads_of_C HR0.out))); have HC225 := Aside0.mk hC22; clear hA22 hC22 hi022 hsz22) | ((with_reducible refine gate_callee (f := 63) rfl ?_); refine goesL_ (some 51) rfl rfl Tryd.func63 (by kernel_rfl) rfl #[.slice A22 ((l0.take ((wrap64 ((ji10) + 24)) : Int).toNat).drop ((ji15) : Int).toNat).length (c0 - (ji15).toNat)] rfl (by (try simp only [List.map_toArray, List.map_cons, List.map_nil]); first | done | (rw [show ((l0.take ((wrap64 ((ji10) + 24)) : Int).toNat).drop ((ji15) : Int).toNat).length = ((wrap64 ((ji10) + 24)).toNat - (ji15).toNat) from (by rw [List.length_drop, List.length_take]; have h_ : ((wrap64 ((ji10) + 24)) : Int) ≤ (l0.length : Int) := of_decide_eq_true (by first | (with_reducible assumption) | assumption); omega)] <;> rfl) | (simp only [hji10, hji15]; rfl) | rfl | (simp only [List.length_drop, List.length_take]; rfl)) ?_; (with_reducible refine (mudlarkref01_Parse.calls k1 _ _ ((l0.take ((wrap64 ((ji10) + 24)) : Int).toNat).drop ((ji15) : Int).toNat) t226 t227 _ ?side1 ?side2 A19.out).mono ?_); (case side1 => repeat (first | exact (Kd.C_below HR225.out (by repeat (first | (with_reducible first | exact HB.out | apply below_alloc | apply pw_below_drewN | apply below_drew1) | exact HB.out))) | (with_reducible refine Kd.C_alloc ?_ _) | (with_reducible refine Kd.C_drewN ?_ _) | (with_reducible refine Kd.C_drew ?_))); (case side2 => exact HC225.out); rintro e w' ⟨rfl, ⟨nd, rfl⟩⟩; refine ⟨_, rfl, ?_⟩))
           (try simp only [Act.put, List.setIfInBounds_toArray, List.set_cons_zero, List.set_cons_succ])
           go_cut [67] (fun v67 wc => ∃ (kq : Nat) (x67_19 : Bool), v67 = .bool x67_19 ∧ Aside0 (mudlarkref08_Parts.j1 kq l0 ji5 ji7 x8_1 x9_1 t223 t226 x67_19 = some (r1, r2)) ∧ Aside0 (kq ≤ k1) ∧ Aside0 (Kd.R k40 40 wc w.heap.size (fun _ => True) u8 x8_1) ∧ Aside0 (Below w.heap.size w wc))
           case first =>
            have H := HC20.out
            clear HC20
            by_cases c23 : t224 = true
            ·subst c23
             have H1 : (if t227 = true then (if t223 < 0 then (mudlarkref08_Parts.j1 k1 l0 ji5 ji7 x8_1 x9_1 t223 t226 true) else (mudlarkref08_Parts.j1 k1 l0 ji5 ji7 x8_1 x9_1 t223 t226 (decide (t226 < 0)))) else (mudlarkref08_Parts.j1 k1 l0 ji5 ji7 x8_1 x9_1 t223 t226 true)) = some (r1, r2) := by rw [if_pos rfl] at H; exact H
             clear H
             have H := H1
             clear H1
             by_cases c24 : t227 = true
             ·subst c24
              have H1 : (if t223 < 0 then (mudlarkref08_Parts.j1 k1 l0 ji5 ji7 x8_1 x9_1 t223 t226 true) else (mudlarkref08_Parts.j1 k1 l0 ji5 ji7 x8_1 x9_1 t223 t226 (decide (t226 < 0)))) = some (r1, r2) := by rw [if_pos rfl] at H; exact H
              clear H
              have H := H1
              clear H1
              by_cases c25 : t223 < 0
              ·rw [if_pos c25] at H
               have c25b0 : decide (t223 < 0) = true := decide_eq_true c25
               clear c25
               (first | rw [c25b0] | (simp only [i64_w, i32_w]; rw [c25b0]) | skip)
               have H' := Aside0.mk H
               clear H
               go_wp2
               go_meet
               case rel => exact ⟨_, (true), (by first | rfl | (simp; done) | (simp [*]; done)), H', ⟨by have := HK1.out; first | omega | exact Nat.le_refl _⟩, ⟨by (with_reducible repeat (first | apply Kd.R_alloc | apply Kd.R_drewN | apply Kd.R_drew)); exact HO_8.out⟩, ⟨by repeat (first | (with_reducible first | exact HB.out | apply below_alloc | apply pw_below_drewN | apply below_drew1) | exact HB.out)⟩⟩
              ·rw [if_neg c25] at H
               have c25b0 : decide (t223 < 0) = false := decide_eq_false c25
               clear c25
               (first | rw [c25b0] | (simp only [i64_w, i32_w]; rw [c25b0]) | skip)
               have H' := Aside0.mk H
               clear H
               go_wp2
               go_meet
               case rel => exact ⟨_, (decide (t226 < 0)), (by first | rfl | (simp; done) | (simp [*]; done)), H', ⟨by have := HK1.out; first | omega | exact Nat.le_refl _⟩, ⟨by (with_reducible repeat (first | apply Kd.R_alloc | apply Kd.R_drewN | apply Kd.R_drew)); exact HO_8.out⟩, ⟨by repeat (first | (with_reducible first | exact HB.out | apply below_alloc | apply pw_below_drewN | apply below_drew1) | exact HB.out)⟩⟩
             ·replace c24 := Bool.eq_false_iff.mpr c24
              subst c24
              have H1 : (mudlarkref08_Parts.j1 k1 l0 ji5 ji7 x8_1 x9_1 t223 t226 true) = some (r1, r2) := by rw [if_neg (show ¬ (false = true) by decide)] at H; exact H
              clear H
              have H := H1
              clear H1
              have H' := Aside0.mk H
              clear H
              go_wp2
              go_meet
              case rel => exact ⟨_, (true), (by first | rfl | (simp; done) | (simp [*]; done)), H', ⟨by have := HK1.out; first | omega | exact Nat.le_refl _⟩, ⟨by (with_reducible repeat (first | apply Kd.R_alloc | apply Kd.R_drewN | apply Kd.R_drew)); exact HO_8.out⟩, ⟨by repeat (first | (with_reducible first | exact HB.out | apply below_alloc | apply pw_below_drewN | apply below_drew1) | exact HB.out)⟩⟩
            ·replace c23 := Bool.eq_false_iff.mpr c23
             subst c23
             have H1 : (mudlarkref08_Parts.j1 k1 l0 ji5 ji7 x8_1 x9_1 t223 t226 true) = some (r1, r2) := by rw [if_neg (show ¬ (false = true) by decide)] at H; exact H
             clear H
             have H := H1
             clear H1
             have H' := Aside0.mk H
             clear H
             go_wp2
             go_meet
             case rel => exact ⟨_, (true), (by first | rfl | (simp; done) | (simp [*]; done)), H', ⟨by have := HK1.out; first | omega | exact Nat.le_refl _⟩, ⟨by (with_reducible repeat (first | apply Kd.R_alloc | apply Kd.R_drewN | apply Kd.R_drew)); exact HO_8.out⟩, ⟨by repeat (first | (with_reducible first | exact HB.out | apply below_alloc | apply pw_below_drewN | apply below_drew1) | exact HB.out)⟩⟩
           case rest =>
            clear HC20
            try clear c1
            try clear c2
            try clear p2
            try clear c4
            try clear c6
            try clear p6
            try clear c8
            try clear c8b0
            try clear c9
            try clear c9b0
            try clear c11
            try clear c11b0
            try clear c11b1
            try clear c12
            try clear c12b0
            try clear c12b1
            try clear c13
            try clear c13b0
            try clear c13b1
            try clear c16
            try clear c16b0
            try clear c16b1
            try clear c17
            try clear c17b0
            try clear c17b1
            try clear c18
            try clear c18b0
            try clear c18b1
            try clear c23
            try clear c24
            try clear c25
            try clear c25b0
            try clear p2
            obtain ⟨kq, x67_19, rfl, HA, HJ19, HO_8, HB⟩ := hcut
            cases kq with
            | zero => exact absurd HA.out (by simp [mudlarkref08_Parts.j1])
            | succ kj19 =>
             have H := HA.out
             clear HA
             simp only [mudlarkref08_Parts.j1] at H
             by_cases c26 : x67_19 = true
             ·subst c26
              have H1 : (some (([] : List (S40)), false)) = some (r1, r2) := by rw [if_pos rfl] at H; exact H
              clear H
              have H := H1
              clear H1
              simp only [Option.some.injEq, Prod.mk.injEq] at H
              obtain ⟨rfl, rfl⟩ := H
              go_wp2
              go_ret2
              exact ⟨_, by first | rfl | (simp [errW_none, errW_some] <;> rfl) | (simp only [← hji4, ← hji5, ← hji6, ← hji7, ← hji10, ← hji15]; first | rfl | (simp [errW_none, errW_some] <;> rfl)) | (simp [*, errW_none, errW_some] <;> rfl), by first | exact Kd.R_nil _ _ _ _ _ | exact Kd.N_nil _ _ _ _ _ | exact Kd.V_nil _ _ _ _ _ | exact Kd.Q_nil _ _ _ _ _ | exact Kd.S_nil _ _ _ _ _, by repeat (first | (with_reducible first | exact HB.out | apply below_alloc | apply pw_below_drewN | apply below_drew1) | exact HB.out)⟩
             ·replace c26 := Bool.eq_false_iff.mpr c26
              subst c26
              have H1 : (if t223 = 0 then (if t226 = 0 then (some (x8_1, true)) else (if x8_1.length < 8796093022208 then (mudlarkref08_Parts.l0 kj19 l0 ji5 ji7 (x8_1 ++ [(⟨t223, t226⟩ : S40)]) (wrap64 (x9_1 + 1))) else (none))) else (if x8_1.length < 8796093022208 then (mudlarkref08_Parts.l0 kj19 l0 ji5 ji7 (x8_1 ++ [(⟨t223, t226⟩ : S40)]) (wrap64 (x9_1 + 1))) else (none))) = some (r1, r2) := by rw [if_neg (show ¬ (false = true) by decide)] at H; exact H
              clear H
              have H := H1
              clear H1
              by_cases c27 : t223 = 0
              ·rw [if_pos c27] at H
               have c27b0 : (t223 == 0) = true := beq_iff_eq.mpr c27
               have c27b1 : (t223 != 0) = false := bne_eq_false_iff_eq.mpr c27
               clear c27
               by_cases c28 : t226 = 0
               ·rw [if_pos c28] at H
                have c28b0 : (t226 == 0) = true := beq_iff_eq.mpr c28
                have c28b1 : (t226 != 0) = false := bne_eq_false_iff_eq.mpr c28
                clear c28
                simp only [Option.some.injEq, Prod.mk.injEq] at H
                obtain ⟨rfl, rfl⟩ := H
                go_wp2
                go_ret2
                exact ⟨_, by first | rfl | (simp [errW_none, errW_some] <;> rfl) | (simp only [← hji4, ← hji5, ← hji6, ← hji7, ← hji10, ← hji15]; first | rfl | (simp [errW_none, errW_some] <;> rfl)) | (simp [*, errW_none, errW_some] <;> rfl), by (with_reducible repeat (first | apply Kd.R_alloc | apply Kd.R_drewN | apply Kd.R_drew)); exact HO_8.out, by repeat (first | (with_reducible first | exact HB.out | apply below_alloc | apply pw_below_drewN | apply below_drew1) | exact HB.out)⟩
               ·rw [if_neg c28] at H
                have c28b0 : (t226 == 0) = false := beq_eq_false_iff_ne.mpr c28
                have c28b1 : (t226 != 0) = true := bne_iff_ne.mpr c28
                by_cases c29 : x8_1.length < 8796093022208
                ·rw [if_pos c29] at H
                 have LMc29 := Aside0.mk c29
                 clear c29
                 obtain ⟨y228, hy228⟩ : ∃ y_ : List (S40), y_ = (x8_1 ++ [(⟨t223, t226⟩ : S40)]) := ⟨_, rfl⟩
                 replace H : (mudlarkref08_Parts.l0 kj19 l0 ji5 ji7 y228 (wrap64 (x9_1 + 1))) = some (r1, r2) := by first | (rw [hy228]; with_reducible exact H) | (have H2_ := (Option.bind_some _ _).symm.trans H; rw [hy228]; with_reducible exact H2_) | (have H2_ := (Option.bind_some _ _).symm.trans H; with_reducible exact H2_) | with_reducible exact H | (rw [hy228]; exact H) | exact H
                 have Ny228 := Aside0.mk hy228
                 clear hy228
                 have H' := Aside0.mk H
                 clear H
                 go_wp2_with (first | ((with_reducible refine gate_builtin (b := .append) (xs := #[.tmp 75, .tmp 79]) rfl ?_); at_builtin; refine Kd.R_append k40 (w0 := w) w.heap.size rfl (.tmp 75) (.tmp 79) 23 40 (.agg #[(.int .i64 0), (.int .i64 0)]) 16 rfl Tryd.underlying23 info40 rfl (by decide) (by omega) u8 x8_1 (⟨t223, t226⟩ : S40) [.int .i64 t223, .int .i64 t226] (fun _ => True) (fun _ => False) rfl rfl ?aP (fun _ hk => hk.elim) ?aF ?aO ?aB ?aS ?aL ?_; (case aP => exact k40_mkM _ _ _ (⟨t223, t226⟩ : S40)); (case aB => exact (by repeat (first | (with_reducible first | exact HB.out | apply below_alloc | apply pw_below_drewN | apply below_drew1) | exact HB.out))); (case aF => exact (fun _ _ => trivial)); (case aO => exact (by (with_reducible repeat (first | apply Kd.R_alloc | apply Kd.R_drewN | apply Kd.R_drew)); exact HO_8.out)); (case aS => exact (below_size (by repeat (first | (with_reducible first | exact HB.out | apply below_alloc | apply pw_below_drewN | apply below_drew1) | exact HB.out)))); (case aL => have := LMc29.out; omega); intro v229 w30 ho hb hg hat; rw [← Ny228.out] at ho; have n0_ := Aside0.mk (hb); have n1_ := Aside0.mk (ho); clear HB; clear HO_8; have HB := n0_; have HO230 := n1_; clear n0_ n1_; clear ho hb hg hat))
                 go_roundg kj19
                 case measure => have := HK1.out; have := HJ19.out; omega
                 case rel => exact ⟨(y228), (wrap64 (x9_1 + 1)), (by first | rfl | (simp; done) | (simp [*]; done)), H', ⟨by have := HK1.out; have := HJ19.out; omega⟩, ⟨by (with_reducible repeat (first | apply Kd.R_alloc | apply Kd.R_drewN | apply Kd.R_drew)); exact HO230.out⟩, ⟨by repeat (first | (with_reducible first | exact HB.out | apply below_alloc | apply pw_below_drewN | apply below_drew1) | exact HB.out)⟩⟩
                ·rw [if_neg c29] at H
                 exact absurd H (by simp)
              ·rw [if_neg c27] at H
               have c27b0 : (t223 == 0) = false := beq_eq_false_iff_ne.mpr c27
               have c27b1 : (t223 != 0) = true := bne_iff_ne.mpr c27
               by_cases c31 : x8_1.length < 8796093022208
               ·rw [if_pos c31] at H
                have LMc31 := Aside0.mk c31
                clear c31
                obtain ⟨y231, hy231⟩ : ∃ y_ : List (S40), y_ = (x8_1 ++ [(⟨t223, t226⟩ : S40)]) := ⟨_, rfl⟩
                replace H : (mudlarkref08_Parts.l0 kj19 l0 ji5 ji7 y231 (wrap64 (x9_1 + 1))) = some (r1, r2) := by first | (rw [hy231]; with_reducible exact H) | (have H2_ := (Option.bind_some _ _).symm.trans H; rw [hy231]; with_reducible exact H2_) | (have H2_ := (Option.bind_some _ _).symm.trans H; with_reducible exact H2_) | with_reducible exact H | (rw [hy231]; exact H) | exact H
                have Ny231 := Aside0.mk hy231
                clear hy231
                have H' := Aside0.mk H
                clear H
                go_wp2_with (first | ((with_reducible refine gate_builtin (b := .append) (xs := #[.tmp 75, .tmp 79]) rfl ?_); at_builtin; refine Kd.R_append k40 (w0 := w) w.heap.size rfl (.tmp 75) (.tmp 79) 23 40 (.agg #[(.int .i64 0), (.int .i64 0)]) 16 rfl Tryd.underlying23 info40 rfl (by decide) (by omega) u8 x8_1 (⟨t223, t226⟩ : S40) [.int .i64 t223, .int .i64 t226] (fun _ => True) (fun _ => False) rfl rfl ?aP (fun _ hk => hk.elim) ?aF ?aO ?aB ?aS ?aL ?_; (case aP => exact k40_mkM _ _ _ (⟨t223, t226⟩ : S40)); (case aB => exact (by repeat (first | (with_reducible first | exact HB.out | apply below_alloc | apply pw_below_drewN | apply below_drew1) | exact HB.out))); (case aF => exact (fun _ _ => trivial)); (case aO => exact (by (with_reducible repeat (first | apply Kd.R_alloc | apply Kd.R_drewN | apply Kd.R_drew)); exact HO_8.out)); (case aS => exact (below_size (by repeat (first | (with_reducible first | exact HB.out | apply below_alloc | apply pw_below_drewN | apply below_drew1) | exact HB.out)))); (case aL => have := LMc31.out; omega); intro v232 w32 ho hb hg hat; rw [← Ny231.out] at ho; have n0_ := Aside0.mk (hb); have n1_ := Aside0.mk (ho); clear HB; clear HO_8; have HB := n0_; have HO233 := n1_; clear n0_ n1_; clear ho hb hg hat))
                go_roundg kj19
                case measure => have := HK1.out; have := HJ19.out; omega
                case rel => exact ⟨(y231), (wrap64 (x9_1 + 1)), (by first | rfl | (simp; done) | (simp [*]; done)), H', ⟨by have := HK1.out; have := HJ19.out; omega⟩, ⟨by (with_reducible repeat (first | apply Kd.R_alloc | apply Kd.R_drewN | apply Kd.R_drew)); exact HO233.out⟩, ⟨by repeat (first | (with_reducible first | exact HB.out | apply below_alloc | apply pw_below_drewN | apply below_drew1) | exact HB.out)⟩⟩
               ·rw [if_neg c31] at H
                exact absurd H (by simp)
          ·rw [if_neg c18] at H
           exact absurd H (by simp)
         ·rw [if_neg c17] at H
          exact absurd H (by simp)
        ·rw [if_neg c16] at H
         exact absurd H (by simp)
       ·rw [if_neg c13] at H
        exact absurd H (by simp)
      ·rw [if_neg c12] at H
       exact absurd H (by simp)
     ·rw [if_neg c11] at H
      exact absurd H (by simp)
   ·rw [if_neg c8] at H
    have c8b0 : decide (x9_1 < ji7) = false := decide_eq_false c8
    clear c8
    simp only [Option.some.injEq, Prod.mk.injEq] at H
    obtain ⟨rfl, rfl⟩ := H
    go_wp2
    go_ret2
    exact ⟨_, by first | rfl | (simp [errW_none, errW_some] <;> rfl) | (simp only [← hji4, ← hji5, ← hji6, ← hji7]; first | rfl | (simp [errW_none, errW_some] <;> rfl)) | (simp [*, errW_none, errW_some] <;> rfl), by (with_reducible repeat (first | apply Kd.R_alloc | apply Kd.R_drewN | apply Kd.R_drew)); exact HO_8.out, by repeat (first | (with_reducible first | exact HB.out | apply below_alloc | apply pw_below_drewN | apply below_drew1) | exact HB.out)⟩

/-! ### mudlarkref09_Old: function 33 -/
def mudlarkref09_Old.f (k : Nat) (l0 : List Int) : Option ((List (S40)) × Bool × Bool) := if (l0.length : Int) = 512 then ((mudlarkref08_Parts.f k l0 0 21).bind fun bt234 => (if bt234.2 = true then (if 504 < (l0.length : Int) then (some (bt234.1, ((rd l0 504) != 0), true)) else (none)) else (some (([] : List (S40)), false, false)))) else (some (([] : List (S40)), false, false))
theorem mudlarkref09_Old.mono : ∀ a0 k, LeO (mudlarkref09_Old.f k a0) (mudlarkref09_Old.f (k + 1) a0) := by
 intro a0 k
 unfold mudlarkref09_Old.f
 repeat' first
   | (with_reducible exact mudlarkref08_Parts.mono _ _ _ _)
   | (with_reducible exact LeO.refl _)
   | (with_reducible exact LeO.none _)
   | (with_reducible refine LeO.ite ?_ ?_)
   | (with_reducible refine LeO.bind ?_ (fun _ => ?_))
   | exact mudlarkref08_Parts.mono _ _ _ _
   | exact LeO.none _
   | refine LeO.ite ?_ ?_
   | refine LeO.bind ?_ (fun _ => ?_)
set_option maxHeartbeats 8000000 in
set_option maxRecDepth 100000 in
theorem mudlarkref09_Old.calls (k : Nat) (A0 : Option Addr) (c0 : Nat) (l0 : List Int) (r1 : List (S40)) (r2 : Bool) (r3 : Bool) (w : World) (hr0 : Kd.C (Kd.int .u8) w A0 l0.length l0) (hc0 : l0.length ≤ c0) (h : mudlarkref09_Old.f k l0 = some (r1, r2, r3)) :
  Calls Tryd.prog 33 #[.slice A0 l0.length c0] w fun e w' => ∃ v0_ : Value, e = .returned (.tuple #[v0_, .bool r2, .bool r3]) ∧ Kd.R k40 40 w' w.heap.size (fun _ => True) v0_ r1 ∧ Below w.heap.size w w' := by
 have HR0 := Aside0.mk hr0
 have HC0 := Aside0.mk hc0
 clear hr0 hc0
 have HB := Aside0.mk (Below.refl w.heap.size w)
 have H : (if (l0.length : Int) = 512 then ((mudlarkref08_Parts.f k l0 0 21).bind fun bt234 => (if bt234.2 = true then (if 504 < (l0.length : Int) then (some (bt234.1, ((rd l0 504) != 0), true)) else (none)) else (some (([] : List (S40)), false, false)))) else (some (([] : List (S40)), false, false))) = some (r1, r2, r3) := h
 clear h
 by_cases c2 : (l0.length : Int) = 512
 ·rw [if_pos c2] at H
  have c2b0 : ((l0.length : Int) == 512) = true := beq_iff_eq.mpr c2
  have c2b1 : ((l0.length : Int) != 512) = false := bne_eq_false_iff_eq.mpr c2
  clear c2
  replace H := Option.bind_eq_some_iff.mp H
  obtain ⟨⟨t234, t235⟩, A30, H⟩ := H
  replace H : (if t235 = true then (if 504 < (l0.length : Int) then (some (t234, ((rd l0 504) != 0), true)) else (none)) else (some (([] : List (S40)), false, false))) = some (r1, r2, r3) := H
  have A3 := Aside0.mk A30
  clear A30
  by_cases c4 : t235 = true
  ·subst c4
   have H1 : (if 504 < (l0.length : Int) then (some (t234, ((rd l0 504) != 0), true)) else (none)) = some (r1, r2, r3) := by rw [if_pos rfl] at H; exact H
   clear H
   have H := H1
   clear H1
   by_cases c5 : 504 < (l0.length : Int)
   ·rw [if_pos c5] at H
    have c5b0 : decide (504 < (l0.length : Int)) = true := decide_eq_true c5
    have c5b1 : decide (504 < l0.length) = true := decide_eq_true (by omega)
    clear c5
    simp only [Option.some.injEq, Prod.mk.injEq] at H
    obtain ⟨rfl, rfl, rfl⟩ := H
    go_enter Tryd.func33, Tryd.ntmps33
    go_wp2_with (first | (go_at_call 48; (with_reducible refine (mudlarkref08_Parts.calls k _ _ l0 0 21 t234 true _ ?side1 ?side2 A3.out).mono ?_); (case side1 => repeat (first | exact HR0.out | (with_reducible refine Kd.C_alloc ?_ _) | (with_reducible refine Kd.C_drewN ?_ _) | (with_reducible refine Kd.C_drew ?_))); (case side2 => exact HC0.out); rintro e w6 ⟨v236, rfl, ho0, hb⟩; have n0_ := Aside0.mk (Kd.R_lower ho0 (below_size (by repeat (first | (with_reducible first | exact HB.out | apply below_alloc | apply pw_below_drewN | apply below_drew1) | exact HB.out)))); have n1_ := Aside0.mk (below_step (by repeat (first | (with_reducible first | exact HB.out | apply below_alloc | apply pw_below_drewN | apply below_drew1) | exact HB.out)) hb); clear HB; have HO237 := n0_; have HB := n1_; clear n0_ n1_; (try clear hb); (try clear hb2); (try clear hk); (try clear hi); (try clear ho0); have p238 : 0 ≤ (504 : Int) := (by omega); have q238 : 504 < (l0.length : Int) := of_decide_eq_true (by first | (with_reducible assumption) | assumption); obtain ⟨ad238, e238, hx238_0⟩ := Kd.at_int HR0.out 504 p238 q238; cases e238; (try simp only [show (504 : Int).toNat = 504 from rfl, Nat.reduceMul, Nat.reduceEqDiff, Go.Addr.add, ↓reduceIte] at hx238_0); have qi238 : (504 < l0.length) = True := eq_true (by omega); (try rw [show ((504 : Int)).toNat = 504 from rfl] at hx238_0); replace hx238_0 := (HB.out.cell (World.block_lt_of_cell? w _ hx238_0)).trans hx238_0; replace p238 := eq_true p238; replace q238 := eq_true q238))
    repeat (go_quiet (first | (go_at_call 48; (with_reducible refine (mudlarkref08_Parts.calls k _ _ l0 0 21 t234 true _ ?side1 ?side2 A3.out).mono ?_); (case side1 => repeat (first | exact HR0.out | (with_reducible refine Kd.C_alloc ?_ _) | (with_reducible refine Kd.C_drewN ?_ _) | (with_reducible refine Kd.C_drew ?_))); (case side2 => exact HC0.out); rintro e w6 ⟨v236, rfl, ho0, hb⟩; have n0_ := Aside0.mk (Kd.R_lower ho0 (below_size (by repeat (first | (with_reducible first | exact HB.out | apply below_alloc | apply pw_below_drewN | apply below_drew1) | exact HB.out)))); have n1_ := Aside0.mk (below_step (by repeat (first | (with_reducible first | exact HB.out | apply below_alloc | apply pw_below_drewN | apply below_drew1) | exact HB.out)) hb); clear HB; have HO237 := n0_; have HB := n1_; clear n0_ n1_; (try clear hb); (try clear hb2); (try clear hk); (try clear hi); (try clear ho0); have p238 : 0 ≤ (504 : Int) := (by omega); have q238 : 504 < (l0.length : Int) := of_decide_eq_true (by first | (with_reducible assumption) | assumption); obtain ⟨ad238, e238, hx238_0⟩ := Kd.at_int HR0.out 504 p238 q238; cases e238; (try simp only [show (504 : Int).toNat = 504 from rfl, Nat.reduceMul, Nat.reduceEqDiff, Go.Addr.add, ↓reduceIte] at hx238_0); have qi238 : (504 < l0.length) = True := eq_true (by omega); (try rw [show ((504 : Int)).toNat = 504 from rfl] at hx238_0); replace hx238_0 := (HB.out.cell (World.block_lt_of_cell? w _ hx238_0)).trans hx238_0; replace p238 := eq_true p238; replace q238 := eq_true q238)); try go_wp2_with (first | (go_at_call 48; (with_reducible refine (mudlarkref08_Parts.calls k _ _ l0 0 21 t234 true _ ?side1 ?side2 A3.out).mono ?_); (case side1 => repeat (first | exact HR0.out | (with_reducible refine Kd.C_alloc ?_ _) | (with_reducible refine Kd.C_drewN ?_ _) | (with_reducible refine Kd.C_drew ?_))); (case side2 => exact HC0.out); rintro e w6 ⟨v236, rfl, ho0, hb⟩; have n0_ := Aside0.mk (Kd.R_lower ho0 (below_size (by repeat (first | (with_reducible first | exact HB.out | apply below_alloc | apply pw_below_drewN | apply below_drew1) | exact HB.out)))); have n1_ := Aside0.mk (below_step (by repeat (first | (with_reducible first | exact HB.out | apply below_alloc | apply pw_below_drewN | apply below_drew1) | exact HB.out)) hb); clear HB; have HO237 := n0_; have HB := n1_; clear n0_ n1_; (try clear hb); (try clear hb2); (try clear hk); (try clear hi); (try clear ho0); have p238 : 0 ≤ (504 : Int) := (by omega); have q238 : 504 < (l0.length : Int) := of_decide_eq_true (by first | (with_reducible assumption) | assumption); obtain ⟨ad238, e238, hx238_0⟩ := Kd.at_int HR0.out 504 p238 q238; cases e238; (try simp only [show (504 : Int).toNat = 504 from rfl, Nat.reduceMul, Nat.reduceEqDiff, Go.Addr.add, ↓reduceIte] at hx238_0); have qi238 : (504 < l0.length) = True := eq_true (by omega); (try rw [show ((504 : Int)).toNat = 504 from rfl] at hx238_0); replace hx238_0 := (HB.out.cell (World.block_lt_of_cell? w _ hx238_0)).trans hx238_0; replace p238 := eq_true p238; replace q238 := eq_true q238)))
    go_ret3
    exact ⟨_, by first | rfl | (simp [errW_none, errW_some] <;> rfl) | (simp [*, errW_none, errW_some] <;> rfl), by (with_reducible repeat (first | apply Kd.R_alloc | apply Kd.R_drewN | apply Kd.R_drew)); exact HO237.out, by repeat (first | (with_reducible first | exact HB.out | apply below_alloc | apply pw_below_drewN | apply below_drew1) | exact HB.out)⟩
   ·rw [if_neg c5] at H
    exact absurd H (by simp)
  ·replace c4 := Bool.eq_false_iff.mpr c4
   subst c4
   have H1 : (some (([] : List (S40)), false, false)) = some (r1, r2, r3) := by rw [if_neg (show ¬ (false = true) by decide)] at H; exact H
   clear H
   have H := H1
   clear H1
   simp only [Option.some.injEq, Prod.mk.injEq] at H
   obtain ⟨rfl, rfl, rfl⟩ := H
   go_enter Tryd.func33, Tryd.ntmps33
   go_wp2_with (first | (go_at_call 48; (with_reducible refine (mudlarkref08_Parts.calls k _ _ l0 0 21 t234 false _ ?side1 ?side2 A3.out).mono ?_); (case side1 => repeat (first | exact HR0.out | (with_reducible refine Kd.C_alloc ?_ _) | (with_reducible refine Kd.C_drewN ?_ _) | (with_reducible refine Kd.C_drew ?_))); (case side2 => exact HC0.out); rintro e w7 ⟨v236, rfl, ho0, hb⟩; have n0_ := Aside0.mk (Kd.R_lower ho0 (below_size (by repeat (first | (with_reducible first | exact HB.out | apply below_alloc | apply pw_below_drewN | apply below_drew1) | exact HB.out)))); have n1_ := Aside0.mk (below_step (by repeat (first | (with_reducible first | exact HB.out | apply below_alloc | apply pw_below_drewN | apply below_drew1) | exact HB.out)) hb); clear HB; have HO237 := n0_; have HB := n1_; clear n0_ n1_; (try clear hb); (try clear hb2); (try clear hk); (try clear hi); (try clear ho0)))
   repeat (go_quiet (first | (go_at_call 48; (with_reducible refine (mudlarkref08_Parts.calls k _ _ l0 0 21 t234 false _ ?side1 ?side2 A3.out).mono ?_); (case side1 => repeat (first | exact HR0.out | (with_reducible refine Kd.C_alloc ?_ _) | (with_reducible refine Kd.C_drewN ?_ _) | (with_reducible refine Kd.C_drew ?_))); (case side2 => exact HC0.out); rintro e w7 ⟨v236, rfl, ho0, hb⟩; have n0_ := Aside0.mk (Kd.R_lower ho0 (below_size (by repeat (first | (with_reducible first | exact HB.out | apply below_alloc | apply pw_below_drewN | apply below_drew1) | exact HB.out)))); have n1_ := Aside0.mk (below_step (by repeat (first | (with_reducible first | exact HB.out | apply below_alloc | apply pw_below_drewN | apply below_drew1) | exact HB.out)) hb); clear HB; have HO237 := n0_; have HB := n1_; clear n0_ n1_; (try clear hb); (try clear hb2); (try clear hk); (try clear hi); (try clear ho0))); try go_wp2_with (first | (go_at_call 48; (with_reducible refine (mudlarkref08_Parts.calls k _ _ l0 0 21 t234 false _ ?side1 ?side2 A3.out).mono ?_); (case side1 => repeat (first | exact HR0.out | (with_reducible refine Kd.C_alloc ?_ _) | (with_reducible refine Kd.C_drewN ?_ _) | (with_reducible refine Kd.C_drew ?_))); (case side2 => exact HC0.out); rintro e w7 ⟨v236, rfl, ho0, hb⟩; have n0_ := Aside0.mk (Kd.R_lower ho0 (below_size (by repeat (first | (with_reducible first | exact HB.out | apply below_alloc | apply pw_below_drewN | apply below_drew1) | exact HB.out)))); have n1_ := Aside0.mk (below_step (by repeat (first | (with_reducible first | exact HB.out | apply below_alloc | apply pw_below_drewN | apply below_drew1) | exact HB.out)) hb); clear HB; have HO237 := n0_; have HB := n1_; clear n0_ n1_; (try clear hb); (try clear hb2); (try clear hk); (try clear hi); (try clear ho0))))
   go_ret3
   exact ⟨_, by first | rfl | (simp [errW_none, errW_some] <;> rfl) | (simp [*, errW_none, errW_some] <;> rfl), by first | exact Kd.R_nil _ _ _ _ _ | exact Kd.N_nil _ _ _ _ _ | exact Kd.V_nil _ _ _ _ _ | exact Kd.Q_nil _ _ _ _ _ | exact Kd.S_nil _ _ _ _ _, by repeat (first | (with_reducible first | exact HB.out | apply below_alloc | apply pw_below_drewN | apply below_drew1) | exact HB.out)⟩
 ·rw [if_neg c2] at H
  have c2b0 : ((l0.length : Int) == 512) = false := beq_eq_false_iff_ne.mpr c2
  have c2b1 : ((l0.length : Int) != 512) = true := bne_iff_ne.mpr c2
  simp only [Option.some.injEq, Prod.mk.injEq] at H
  obtain ⟨rfl, rfl, rfl⟩ := H
  go_enter Tryd.func33, Tryd.ntmps33
  go_wp2
  repeat (go_quiet (fail); try go_wp2)
  go_ret3
  exact ⟨_, by first | rfl | (simp [errW_none, errW_some] <;> rfl) | (simp [*, errW_none, errW_some] <;> rfl), by first | exact Kd.R_nil _ _ _ _ _ | exact Kd.N_nil _ _ _ _ _ | exact Kd.V_nil _ _ _ _ _ | exact Kd.Q_nil _ _ _ _ _ | exact Kd.S_nil _ _ _ _ _, by repeat (first | (with_reducible first | exact HB.out | apply below_alloc | apply pw_below_drewN | apply below_drew1) | exact HB.out)⟩

/-! ### mudlarklaw09_old: function 23 -/
def mudlarklaw09_old.f (k : Nat) (l0 : List Int) : Option (Bool) := (sparse_Old.f k l0).bind fun bt239 => ((mudlarkref09_Old.f k l0).bind fun bt244 => ((mudlarkref09_Same.f k bt239.1 bt244.1).bind fun t249 => (if t249 = true then (if (bt239.2.1 == bt244.2.1) = true then (some (bt239.2.2 == bt244.2.2)) else (some false)) else (some false))))
theorem mudlarklaw09_old.mono : ∀ a0 k, LeO (mudlarklaw09_old.f k a0) (mudlarklaw09_old.f (k + 1) a0) := by
 intro a0 k
 unfold mudlarklaw09_old.f
 repeat' first
   | (with_reducible exact mudlarkref09_Old.mono _ _)
   | (with_reducible exact mudlarkref09_Same.mono _ _ _)
   | (with_reducible exact sparse_Old.mono _ _)
   | (with_reducible exact LeO.refl _)
   | (with_reducible exact LeO.none _)
   | (with_reducible refine LeO.ite ?_ ?_)
   | (with_reducible refine LeO.bind ?_ (fun _ => ?_))
   | exact mudlarkref09_Old.mono _ _
   | exact mudlarkref09_Same.mono _ _ _
   | exact sparse_Old.mono _ _
   | exact LeO.none _
   | refine LeO.ite ?_ ?_
   | refine LeO.bind ?_ (fun _ => ?_)
set_option maxHeartbeats 8000000 in
set_option maxRecDepth 100000 in
theorem mudlarklaw09_old.calls (k : Nat) (A0 : Option Addr) (c0 : Nat) (l0 : List Int) (r : Bool) (w : World) (hr0 : Kd.C (Kd.int .u8) w A0 l0.length l0) (hc0 : l0.length ≤ c0) (h : mudlarklaw09_old.f k l0 = some r) :
  Calls Tryd.prog 23 #[.slice A0 l0.length c0] w fun e w' => e = .returned (.bool r) ∧ Below w.heap.size w w' := by
 have HR0 := Aside0.mk hr0
 have HC0 := Aside0.mk hc0
 clear hr0 hc0
 have HB := Aside0.mk (Below.refl w.heap.size w)
 have H : ((sparse_Old.f k l0).bind fun bt239 => ((mudlarkref09_Old.f k l0).bind fun bt244 => ((mudlarkref09_Same.f k bt239.1 bt244.1).bind fun t249 => (if t249 = true then (if (bt239.2.1 == bt244.2.1) = true then (some (bt239.2.2 == bt244.2.2)) else (some false)) else (some false))))) = some r := h
 clear h
 replace H := Option.bind_eq_some_iff.mp H
 obtain ⟨⟨t239, t240, t241⟩, A20, H⟩ := H
 replace H : ((mudlarkref09_Old.f k l0).bind fun bt244 => ((mudlarkref09_Same.f k t239 bt244.1).bind fun t249 => (if t249 = true then (if (t240 == bt244.2.1) = true then (some (t241 == bt244.2.2)) else (some false)) else (some false)))) = some r := H
 have A2 := Aside0.mk A20
 clear A20
 replace H := Option.bind_eq_some_iff.mp H
 obtain ⟨⟨t244, t245, t246⟩, A30, H⟩ := H
 replace H : ((mudlarkref09_Same.f k t239 t244).bind fun t249 => (if t249 = true then (if (t240 == t245) = true then (some (t241 == t246)) else (some false)) else (some false))) = some r := H
 have A3 := Aside0.mk A30
 clear A30
 replace H := Option.bind_eq_some_iff.mp H
 obtain ⟨t249, A40, H⟩ := H
 replace H : (if t249 = true then (if (t240 == t245) = true then (some (t241 == t246)) else (some false)) else (some false)) = some r := H
 have A4 := Aside0.mk A40
 clear A40
 by_cases c5 : t249 = true
 ·subst c5
  have H1 : (if (t240 == t245) = true then (some (t241 == t246)) else (some false)) = some r := by rw [if_pos rfl] at H; exact H
  clear H
  have H := H1
  clear H1
  by_cases c6 : (t240 == t245) = true
  ·rw [if_pos c6] at H
   have c6b0 : (t240 == t245) = true := c6
   (try (have c6b1 : decide (t240 = t245) = true := by simpa using c6))
   (try (have c6b2 : (t240 == t245) = true := by simpa using c6))
   clear c6
   obtain rfl := Option.some.inj H
   go_enter Tryd.func23, Tryd.ntmps23
   go_wp2_with (first | ((with_reducible refine gate_callee (f := 32) rfl ?_); refine goesL_ (some 11) rfl rfl Tryd.func32 (by kernel_rfl) rfl #[.slice A0 l0.length c0] rfl (by (try simp only [List.map_toArray, List.map_cons, List.map_nil]); first | done | rfl | (simp only [List.length_drop, List.length_take]; rfl)) ?_; (with_reducible refine (sparse_Old.calls k _ _ l0 t239 t240 t241 _ ?side1 ?side2 A2.out).mono ?_); (case side1 => repeat (first | exact HR0.out | (with_reducible refine Kd.C_alloc ?_ _) | (with_reducible refine Kd.C_drewN ?_ _) | (with_reducible refine Kd.C_drew ?_))); (case side2 => exact HC0.out); rintro e w7 ⟨v242, rfl, ho0, hb⟩; refine ⟨_, rfl, ?_⟩; have n0_ := Aside0.mk (Kd.R_lower ho0 (below_size (by repeat (first | (with_reducible first | exact HB.out | apply below_alloc | apply pw_below_drewN | apply below_drew1) | exact HB.out)))); have n1_ := Aside0.mk (below_step (by repeat (first | (with_reducible first | exact HB.out | apply below_alloc | apply pw_below_drewN | apply below_drew1) | exact HB.out)) hb); clear HB; have HO243 := n0_; have HB := n1_; clear n0_ n1_; (try clear hb); (try clear hb2); (try clear hk); (try clear hi); (try clear ho0)) | ((with_reducible refine gate_callee (f := 33) rfl ?_); refine goesL_ (some 17) rfl rfl Tryd.func33 (by kernel_rfl) rfl #[.slice A0 l0.length c0] rfl (by (try simp only [List.map_toArray, List.map_cons, List.map_nil]); first | done | rfl | (simp only [List.length_drop, List.length_take]; rfl)) ?_; (with_reducible refine (mudlarkref09_Old.calls k _ _ l0 t244 t245 t246 _ ?side1 ?side2 A3.out).mono ?_); (case side1 => repeat (first | exact (Kd.C_below HR0.out HB.out) | (with_reducible refine Kd.C_alloc ?_ _) | (with_reducible refine Kd.C_drewN ?_ _) | (with_reducible refine Kd.C_drew ?_))); (case side2 => exact HC0.out); rintro e w8 ⟨v247, rfl, ho0, hb⟩; refine ⟨_, rfl, ?_⟩; have n0_ := Aside0.mk (Kd.R_elder' (by (with_reducible repeat (first | apply Kd.R_alloc | apply Kd.R_drewN | apply Kd.R_drew)); exact HO243.out) (Kd.R_base ho0) hb); have n1_ := Aside0.mk (Kd.R_lower (Kd.R_new' ho0 (Kd.R_lt (by (with_reducible repeat (first | apply Kd.R_alloc | apply Kd.R_drewN | apply Kd.R_drew)); exact HO243.out))) (below_size (by repeat (first | (with_reducible first | exact HB.out | apply below_alloc | apply pw_below_drewN | apply below_drew1) | exact HB.out)))); have n2_ := Aside0.mk (below_step (by repeat (first | (with_reducible first | exact HB.out | apply below_alloc | apply pw_below_drewN | apply below_drew1) | exact HB.out)) hb); clear HO243; clear HB; have HO243 := n0_; have HO248 := n1_; have HB := n2_; clear n0_ n1_ n2_; (try clear hb); (try clear hb2); (try clear hk); (try clear hi); (try clear ho0); obtain ⟨Ao9, co9, eo9⟩ := Kd.R_slice HO243.out; subst eo9; obtain ⟨Ao10, co10, eo10⟩ := Kd.R_slice HO248.out; subst eo10) | ((with_reducible refine gate_callee (f := 15) rfl ?_); refine goesL_ (some 23) rfl rfl Tryd.func15 (by kernel_rfl) rfl #[.slice Ao9 t239.length co9, .slice Ao10 t244.length co10] rfl (by (try simp only [List.map_toArray, List.map_cons, List.map_nil]); first | done | rfl | (simp only [List.length_drop, List.length_take]; rfl)) ?_; (with_reducible refine (mudlarkref09_Same.calls k _ _ t239 _ _ t244 true _ ?side1 ?side2 ?side3 ?side4 A4.out).mono ?_); (case side1 => repeat (first | exact (Kd.R_reads' HO243.out).2.2 | (with_reducible refine Kd.C_alloc ?_ _) | (with_reducible refine Kd.C_drewN ?_ _) | (with_reducible refine Kd.C_drew ?_))); (case side2 => exact (Kd.R_reads' HO243.out).2.1); (case side3 => repeat (first | exact (Kd.R_reads' HO248.out).2.2 | (with_reducible refine Kd.C_alloc ?_ _) | (with_reducible refine Kd.C_drewN ?_ _) | (with_reducible refine Kd.C_drew ?_))); (case side4 => exact (Kd.R_reads' HO248.out).2.1); rintro e w' ⟨rfl, ⟨nd, rfl⟩⟩; refine ⟨_, rfl, ?_⟩))
   go_ret
   exact ⟨by first | rfl | (simp [errW_none, errW_some] <;> rfl) | (simp [*, errW_none, errW_some] <;> rfl), by repeat (first | (with_reducible first | exact HB.out | apply below_alloc | apply pw_below_drewN | apply below_drew1) | exact HB.out)⟩
  ·rw [if_neg c6] at H
   have c6b0 : (t240 == t245) = false := by simpa using c6
   (try (have c6b1 : decide (t240 = t245) = false := by simpa using c6))
   (try (have c6b2 : (t240 == t245) = false := by simpa using c6))
   (try (have c6b3 : ¬ (t240 = t245) := by simpa using c6))
   clear c6
   obtain rfl := Option.some.inj H
   go_enter Tryd.func23, Tryd.ntmps23
   go_wp2_with (first | ((with_reducible refine gate_callee (f := 32) rfl ?_); refine goesL_ (some 11) rfl rfl Tryd.func32 (by kernel_rfl) rfl #[.slice A0 l0.length c0] rfl (by (try simp only [List.map_toArray, List.map_cons, List.map_nil]); first | done | rfl | (simp only [List.length_drop, List.length_take]; rfl)) ?_; (with_reducible refine (sparse_Old.calls k _ _ l0 t239 t240 t241 _ ?side1 ?side2 A2.out).mono ?_); (case side1 => repeat (first | exact HR0.out | (with_reducible refine Kd.C_alloc ?_ _) | (with_reducible refine Kd.C_drewN ?_ _) | (with_reducible refine Kd.C_drew ?_))); (case side2 => exact HC0.out); rintro e w11 ⟨v242, rfl, ho0, hb⟩; refine ⟨_, rfl, ?_⟩; have n0_ := Aside0.mk (Kd.R_lower ho0 (below_size (by repeat (first | (with_reducible first | exact HB.out | apply below_alloc | apply pw_below_drewN | apply below_drew1) | exact HB.out)))); have n1_ := Aside0.mk (below_step (by repeat (first | (with_reducible first | exact HB.out | apply below_alloc | apply pw_below_drewN | apply below_drew1) | exact HB.out)) hb); clear HB; have HO243 := n0_; have HB := n1_; clear n0_ n1_; (try clear hb); (try clear hb2); (try clear hk); (try clear hi); (try clear ho0)) | ((with_reducible refine gate_callee (f := 33) rfl ?_); refine goesL_ (some 17) rfl rfl Tryd.func33 (by kernel_rfl) rfl #[.slice A0 l0.length c0] rfl (by (try simp only [List.map_toArray, List.map_cons, List.map_nil]); first | done | rfl | (simp only [List.length_drop, List.length_take]; rfl)) ?_; (with_reducible refine (mudlarkref09_Old.calls k _ _ l0 t244 t245 t246 _ ?side1 ?side2 A3.out).mono ?_); (case side1 => repeat (first | exact (Kd.C_below HR0.out HB.out) | (with_reducible refine Kd.C_alloc ?_ _) | (with_reducible refine Kd.C_drewN ?_ _) | (with_reducible refine Kd.C_drew ?_))); (case side2 => exact HC0.out); rintro e w12 ⟨v247, rfl, ho0, hb⟩; refine ⟨_, rfl, ?_⟩; have n0_ := Aside0.mk (Kd.R_elder' (by (with_reducible repeat (first | apply Kd.R_alloc | apply Kd.R_drewN | apply Kd.R_drew)); exact HO243.out) (Kd.R_base ho0) hb); have n1_ := Aside0.mk (Kd.R_lower (Kd.R_new' ho0 (Kd.R_lt (by (with_reducible repeat (first | apply Kd.R_alloc | apply Kd.R_drewN | apply Kd.R_drew)); exact HO243.out))) (below_size (by repeat (first | (with_reducible first | exact HB.out | apply below_alloc | apply pw_below_drewN | apply below_drew1) | exact HB.out)))); have n2_ := Aside0.mk (below_step (by repeat (first | (with_reducible first | exact HB.out | apply below_alloc | apply pw_below_drewN | apply below_drew1) | exact HB.out)) hb); clear HO243; clear HB; have HO243 := n0_; have HO248 := n1_; have HB := n2_; clear n0_ n1_ n2_; (try clear hb); (try clear hb2); (try clear hk); (try clear hi); (try clear ho0); obtain ⟨Ao13, co13, eo13⟩ := Kd.R_slice HO243.out; subst eo13; obtain ⟨Ao14, co14, eo14⟩ := Kd.R_slice HO248.out; subst eo14) | ((with_reducible refine gate_callee (f := 15) rfl ?_); refine goesL_ (some 23) rfl rfl Tryd.func15 (by kernel_rfl) rfl #[.slice Ao13 t239.length co13, .slice Ao14 t244.length co14] rfl (by (try simp only [List.map_toArray, List.map_cons, List.map_nil]); first | done | rfl | (simp only [List.length_drop, List.length_take]; rfl)) ?_; (with_reducible refine (mudlarkref09_Same.calls k _ _ t239 _ _ t244 true _ ?side1 ?side2 ?side3 ?side4 A4.out).mono ?_); (case side1 => repeat (first | exact (Kd.R_reads' HO243.out).2.2 | (with_reducible refine Kd.C_alloc ?_ _) | (with_reducible refine Kd.C_drewN ?_ _) | (with_reducible refine Kd.C_drew ?_))); (case side2 => exact (Kd.R_reads' HO243.out).2.1); (case side3 => repeat (first | exact (Kd.R_reads' HO248.out).2.2 | (with_reducible refine Kd.C_alloc ?_ _) | (with_reducible refine Kd.C_drewN ?_ _) | (with_reducible refine Kd.C_drew ?_))); (case side4 => exact (Kd.R_reads' HO248.out).2.1); rintro e w' ⟨rfl, ⟨nd, rfl⟩⟩; refine ⟨_, rfl, ?_⟩))
   go_ret
   exact ⟨by first | rfl | (simp [errW_none, errW_some] <;> rfl) | (simp [*, errW_none, errW_some] <;> rfl), by repeat (first | (with_reducible first | exact HB.out | apply below_alloc | apply pw_below_drewN | apply below_drew1) | exact HB.out)⟩
 ·replace c5 := Bool.eq_false_iff.mpr c5
  subst c5
  have H1 : (some false) = some r := by rw [if_neg (show ¬ (false = true) by decide)] at H; exact H
  clear H
  have H := H1
  clear H1
  obtain rfl := Option.some.inj H
  go_enter Tryd.func23, Tryd.ntmps23
  go_wp2_with (first | ((with_reducible refine gate_callee (f := 32) rfl ?_); refine goesL_ (some 11) rfl rfl Tryd.func32 (by kernel_rfl) rfl #[.slice A0 l0.length c0] rfl (by (try simp only [List.map_toArray, List.map_cons, List.map_nil]); first | done | rfl | (simp only [List.length_drop, List.length_take]; rfl)) ?_; (with_reducible refine (sparse_Old.calls k _ _ l0 t239 t240 t241 _ ?side1 ?side2 A2.out).mono ?_); (case side1 => repeat (first | exact HR0.out | (with_reducible refine Kd.C_alloc ?_ _) | (with_reducible refine Kd.C_drewN ?_ _) | (with_reducible refine Kd.C_drew ?_))); (case side2 => exact HC0.out); rintro e w15 ⟨v242, rfl, ho0, hb⟩; refine ⟨_, rfl, ?_⟩; have n0_ := Aside0.mk (Kd.R_lower ho0 (below_size (by repeat (first | (with_reducible first | exact HB.out | apply below_alloc | apply pw_below_drewN | apply below_drew1) | exact HB.out)))); have n1_ := Aside0.mk (below_step (by repeat (first | (with_reducible first | exact HB.out | apply below_alloc | apply pw_below_drewN | apply below_drew1) | exact HB.out)) hb); clear HB; have HO243 := n0_; have HB := n1_; clear n0_ n1_; (try clear hb); (try clear hb2); (try clear hk); (try clear hi); (try clear ho0)) | ((with_reducible refine gate_callee (f := 33) rfl ?_); refine goesL_ (some 17) rfl rfl Tryd.func33 (by kernel_rfl) rfl #[.slice A0 l0.length c0] rfl (by (try simp only [List.map_toArray, List.map_cons, List.map_nil]); first | done | rfl | (simp only [List.length_drop, List.length_take]; rfl)) ?_; (with_reducible refine (mudlarkref09_Old.calls k _ _ l0 t244 t245 t246 _ ?side1 ?side2 A3.out).mono ?_); (case side1 => repeat (first | exact (Kd.C_below HR0.out HB.out) | (with_reducible refine Kd.C_alloc ?_ _) | (with_reducible refine Kd.C_drewN ?_ _) | (with_reducible refine Kd.C_drew ?_))); (case side2 => exact HC0.out); rintro e w16 ⟨v247, rfl, ho0, hb⟩; refine ⟨_, rfl, ?_⟩; have n0_ := Aside0.mk (Kd.R_elder' (by (with_reducible repeat (first | apply Kd.R_alloc | apply Kd.R_drewN | apply Kd.R_drew)); exact HO243.out) (Kd.R_base ho0) hb); have n1_ := Aside0.mk (Kd.R_lower (Kd.R_new' ho0 (Kd.R_lt (by (with_reducible repeat (first | apply Kd.R_alloc | apply Kd.R_drewN | apply Kd.R_drew)); exact HO243.out))) (below_size (by repeat (first | (with_reducible first | exact HB.out | apply below_alloc | apply pw_below_drewN | apply below_drew1) | exact HB.out)))); have n2_ := Aside0.mk (below_step (by repeat (first | (with_reducible first | exact HB.out | apply below_alloc | apply pw_below_drewN | apply below_drew1) | exact HB.out)) hb); clear HO243; clear HB; have HO243 := n0_; have HO248 := n1_; have HB := n2_; clear n0_ n1_ n2_; (try clear hb); (try clear hb2); (try clear hk); (try clear hi); (try clear ho0); obtain ⟨Ao17, co17, eo17⟩ := Kd.R_slice HO243.out; subst eo17; obtain ⟨Ao18, co18, eo18⟩ := Kd.R_slice HO248.out; subst eo18) | ((with_reducible refine gate_callee (f := 15) rfl ?_); refine goesL_ (some 23) rfl rfl Tryd.func15 (by kernel_rfl) rfl #[.slice Ao17 t239.length co17, .slice Ao18 t244.length co18] rfl (by (try simp only [List.map_toArray, List.map_cons, List.map_nil]); first | done | rfl | (simp only [List.length_drop, List.length_take]; rfl)) ?_; (with_reducible refine (mudlarkref09_Same.calls k _ _ t239 _ _ t244 false _ ?side1 ?side2 ?side3 ?side4 A4.out).mono ?_); (case side1 => repeat (first | exact (Kd.R_reads' HO243.out).2.2 | (with_reducible refine Kd.C_alloc ?_ _) | (with_reducible refine Kd.C_drewN ?_ _) | (with_reducible refine Kd.C_drew ?_))); (case side2 => exact (Kd.R_reads' HO243.out).2.1); (case side3 => repeat (first | exact (Kd.R_reads' HO248.out).2.2 | (with_reducible refine Kd.C_alloc ?_ _) | (with_reducible refine Kd.C_drewN ?_ _) | (with_reducible refine Kd.C_drew ?_))); (case side4 => exact (Kd.R_reads' HO248.out).2.1); rintro e w' ⟨rfl, ⟨nd, rfl⟩⟩; refine ⟨_, rfl, ?_⟩))
  go_ret
  exact ⟨by first | rfl | (simp [errW_none, errW_some] <;> rfl) | (simp [*, errW_none, errW_some] <;> rfl), by repeat (first | (with_reducible first | exact HB.out | apply below_alloc | apply pw_below_drewN | apply below_drew1) | exact HB.out)⟩

end Go.Proofs.YtlnbkmlidmgbaaaDoor.P
