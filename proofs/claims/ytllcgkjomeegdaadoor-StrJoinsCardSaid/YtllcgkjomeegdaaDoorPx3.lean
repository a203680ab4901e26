/- Lean functions with the answers of the Go functions of this seat, and for each the proof that the Go code comes to them (made by the session's program over the kit's print). No conditions. -/
import Derived.Test.YtllcgkjomeegdaaDoorPx0
import Derived.Test.YtllcgkjomeegdaaDoorPx1
import Derived.Test.YtllcgkjomeegdaaDoorHSplit
namespace Go.Proofs.YtllcgkjomeegdaaDoor.P
open Go.RowKit Go.Proofs.YtllcgkjomeegdaaDoorW.PrintWords Go.Proofs.YtllcgkjomeegdaaDoorW.PrintLast Go.Proofs.YtllcgkjomeegdaaDoorW.PrintMore
attribute [local go_sem] max2_int min2_int max_two min_two max_three min_three max_four min_four   -- for this text's walks alone
set_option linter.unusedVariables false
set_option linter.unusedSimpArgs false

/-! ### mudlarklaw02_StrJoins: function 3 -/
mutual
def mudlarklaw02_StrJoins.j0 : Nat → List ByteArray → List ByteArray → List ByteArray → List ByteArray → Bool → Option (Bool)
  | 0, _, _, _, _, _ => none
  | k + 1, x7, x8, x9, x10, x46 => if x46 = true then (some false) else (mudlarklaw02_StrJoins.l0 k x7 x8 x9 x10 0)
def mudlarklaw02_StrJoins.l0 : Nat → List ByteArray → List ByteArray → List ByteArray → List ByteArray → Int → Option (Bool)
  | 0, _, _, _, _, _ => none
  | k + 1, x7, x8, x9, x10, x11 => if x11 < (x9.length : Int) then (if x11 < (x7.length : Int) then (if 0 ≤ x11 then (if (rdOf ByteArray.empty x9 x11).toList = (rdOf ByteArray.empty x7 x11).toList then (if x11 ≥ (x7.length : Int) then (if 0 ≤ (wrap64 (x11 - (x7.length : Int))) then (if (wrap64 (x11 - (x7.length : Int))) < (x8.length : Int) then (if (rdOf ByteArray.empty x9 x11).toList = (rdOf ByteArray.empty x8 (wrap64 (x11 - (x7.length : Int)))).toList then (if x11 < (x10.length : Int) then (if (rdOf ByteArray.empty x10 x11).toList = (rdOf ByteArray.empty x9 x11).toList then (mudlarklaw02_StrJoins.l0 k x7 x8 x9 x10 (wrap64 (x11 + 1))) else (some false)) else (none)) else (some false)) else (none)) else (none)) else (if x11 < (x10.length : Int) then (if (rdOf ByteArray.empty x10 x11).toList = (rdOf ByteArray.empty x9 x11).toList then (mudlarklaw02_StrJoins.l0 k x7 x8 x9 x10 (wrap64 (x11 + 1))) else (some false)) else (none))) else (some false)) else (none)) else (if x11 ≥ (x7.length : Int) then (if 0 ≤ x11 then (if 0 ≤ (wrap64 (x11 - (x7.length : Int))) then (if (wrap64 (x11 - (x7.length : Int))) < (x8.length : Int) then (if (rdOf ByteArray.empty x9 x11).toList = (rdOf ByteArray.empty x8 (wrap64 (x11 - (x7.length : Int)))).toList then (if x11 < (x10.length : Int) then (if (rdOf ByteArray.empty x10 x11).toList = (rdOf ByteArray.empty x9 x11).toList then (mudlarklaw02_StrJoins.l0 k x7 x8 x9 x10 (wrap64 (x11 + 1))) else (some false)) else (none)) else (some false)) else (none)) else (none)) else (none)) else (if 0 ≤ x11 then (if x11 < (x10.length : Int) then (if (rdOf ByteArray.empty x10 x11).toList = (rdOf ByteArray.empty x9 x11).toList then (mudlarklaw02_StrJoins.l0 k x7 x8 x9 x10 (wrap64 (x11 + 1))) else (some false)) else (none)) else (none)))) else ((mudlarklaw02_known.f).bind fun t183 => (some t183))
end
def mudlarklaw02_StrJoins.f (k : Nat) (l0 : List Int) (l1 : List Int) : Option (Bool) := (mudlarklaw02_Path.f k l0).bind fun t155 => ((mudlarklaw02_Path.f k l1).bind fun t156 => ((str_Split.f t155).bind fun t157 => ((str_Split.f t156).bind fun t160 => (if t155.size + 1 ≤ 9223372036854775807 then (if (t155 ++ (⟨#[47]⟩ : ByteArray)).size + t156.size ≤ 9223372036854775807 then ((str_Split.f ((t155 ++ (⟨#[47]⟩ : ByteArray)) ++ t156)).bind fun t163 => (if 2 + t155.size ≤ 9223372036854775807 then (if ((⟨#[47, 47]⟩ : ByteArray) ++ t155).size + 3 ≤ 9223372036854775807 then (if (((⟨#[47, 47]⟩ : ByteArray) ++ t155) ++ (⟨#[47, 46, 47]⟩ : ByteArray)).size + t156.size ≤ 9223372036854775807 then (if ((((⟨#[47, 47]⟩ : ByteArray) ++ t155) ++ (⟨#[47, 46, 47]⟩ : ByteArray)) ++ t156).size + 1 ≤ 9223372036854775807 then ((str_Split.f (((((⟨#[47, 47]⟩ : ByteArray) ++ t155) ++ (⟨#[47, 46, 47]⟩ : ByteArray)) ++ t156) ++ (⟨#[47]⟩ : ByteArray))).bind fun t166 => (if (t163.length : Int) = (wrap64 ((t157.length : Int) + (t160.length : Int))) then (mudlarklaw02_StrJoins.j0 k t157 t160 t163 t166 ((t166.length : Int) != (t163.length : Int))) else (mudlarklaw02_StrJoins.j0 k t157 t160 t163 t166 true))) else (none)) else (none)) else (none)) else (none))) else (none)) else (none)))))
theorem mudlarklaw02_StrJoins.mono_l : ∀ k, (∀ y0 y1 y2 y3 y4, LeO (mudlarklaw02_StrJoins.j0 k y0 y1 y2 y3 y4) (mudlarklaw02_StrJoins.j0 (k + 1) y0 y1 y2 y3 y4)) ∧ (∀ y0 y1 y2 y3 y4, LeO (mudlarklaw02_StrJoins.l0 k y0 y1 y2 y3 y4) (mudlarklaw02_StrJoins.l0 (k + 1) y0 y1 y2 y3 y4))
  | 0 => ⟨fun _ _ _ _ _ r h => by simp [mudlarklaw02_StrJoins.j0] at h, fun _ _ _ _ _ r h => by simp [mudlarklaw02_StrJoins.l0] at h⟩
  | k + 1 => by
    obtain ⟨ih0, ih1⟩ := mudlarklaw02_StrJoins.mono_l k
    refine ⟨?_, ?_⟩
    · intro y0 y1 y2 y3 y4
      unfold mudlarklaw02_StrJoins.j0
      repeat' first
      | (with_reducible exact ih0 _ _ _ _ _)
      | (with_reducible exact ih1 _ _ _ _ _)
      | (with_reducible exact mudlarklaw02_Path.mono _ _)
      | (with_reducible exact LeO.refl _)
      | (with_reducible exact LeO.none _)
      | (with_reducible refine LeO.ite ?_ ?_)
      | (with_reducible refine LeO.bind ?_ (fun _ => ?_))
      | exact ih0 _ _ _ _ _
      | exact ih1 _ _ _ _ _
      | exact mudlarklaw02_Path.mono _ _
      | exact LeO.none _
      | refine LeO.ite ?_ ?_
      | refine LeO.bind ?_ (fun _ => ?_)
    · intro y0 y1 y2 y3 y4
      unfold mudlarklaw02_StrJoins.l0
      repeat' first
      | (with_reducible exact ih0 _ _ _ _ _)
      | (with_reducible exact ih1 _ _ _ _ _)
      | (with_reducible exact mudlarklaw02_Path.mono _ _)
      | (with_reducible exact LeO.refl _)
      | (with_reducible exact LeO.none _)
      | (with_reducible refine LeO.ite ?_ ?_)
      | (with_reducible refine LeO.bind ?_ (fun _ => ?_))
      | exact ih0 _ _ _ _ _
      | exact ih1 _ _ _ _ _
      | exact mudlarklaw02_Path.mono _ _
      | exact LeO.none _
      | refine LeO.ite ?_ ?_
      | refine LeO.bind ?_ (fun _ => ?_)
theorem mudlarklaw02_StrJoins.mono : ∀ a0 a1 k, LeO (mudlarklaw02_StrJoins.f k a0 a1) (mudlarklaw02_StrJoins.f (k + 1) a0 a1) := by
  intro a0 a1 k
  obtain ⟨ih0, ih1⟩ := mudlarklaw02_StrJoins.mono_l k
  unfold mudlarklaw02_StrJoins.f
  repeat' first
      | (with_reducible exact ih0 _ _ _ _ _)
      | (with_reducible exact ih1 _ _ _ _ _)
      | (with_reducible exact mudlarklaw02_Path.mono _ _)
      | (with_reducible exact LeO.refl _)
      | (with_reducible exact LeO.none _)
      | (with_reducible refine LeO.ite ?_ ?_)
      | (with_reducible refine LeO.bind ?_ (fun _ => ?_))
      | exact ih0 _ _ _ _ _
      | exact ih1 _ _ _ _ _
      | exact mudlarklaw02_Path.mono _ _
      | exact LeO.none _
      | refine LeO.ite ?_ ?_
      | refine LeO.bind ?_ (fun _ => ?_)
set_option maxHeartbeats 8000000 in
set_option maxRecDepth 100000 in
theorem mudlarklaw02_StrJoins.calls (k : Nat) (A0 : Option Addr) (c0 : Nat) (l0 : List Int) (A1 : Option Addr) (c1 : Nat) (l1 : List Int) (r : Bool) (w : World) (hr0 : Kd.C (Kd.int .u8) w A0 l0.length l0) (hc0 : l0.length ≤ c0) (hr1 : Kd.C (Kd.int .u8) w A1 l1.length l1) (hc1 : l1.length ≤ c1) (h : mudlarklaw02_StrJoins.f k l0 l1 = some r) (HT_ : Tabs w) :
    Calls Tryd.prog 3 #[.slice A0 l0.length c0, .slice A1 l1.length c1] w fun e w' => e = .returned (.bool r) ∧ Below w.heap.size w w' := by
  have HT := Aside0.mk HT_
  clear HT_
  have HR0 := Aside0.mk hr0
  have HC0 := Aside0.mk hc0
  clear hr0 hc0
  have HR1 := Aside0.mk hr1
  have HC1 := Aside0.mk hc1
  clear hr1 hc1
  have HB := Aside0.mk (Below.refl w.heap.size w)
  have H : ((mudlarklaw02_Path.f k l0).bind fun t155 => ((mudlarklaw02_Path.f k l1).bind fun t156 => ((str_Split.f t155).bind fun t157 => ((str_Split.f t156).bind fun t160 => (if t155.size + 1 ≤ 9223372036854775807 then (if (t155 ++ (⟨#[47]⟩ : ByteArray)).size + t156.size ≤ 9223372036854775807 then ((str_Split.f ((t155 ++ (⟨#[47]⟩ : ByteArray)) ++ t156)).bind fun t163 => (if 2 + t155.size ≤ 9223372036854775807 then (if ((⟨#[47, 47]⟩ : ByteArray) ++ t155).size + 3 ≤ 9223372036854775807 then (if (((⟨#[47, 47]⟩ : ByteArray) ++ t155) ++ (⟨#[47, 46, 47]⟩ : ByteArray)).size + t156.size ≤ 9223372036854775807 then (if ((((⟨#[47, 47]⟩ : ByteArray) ++ t155) ++ (⟨#[47, 46, 47]⟩ : ByteArray)) ++ t156).size + 1 ≤ 9223372036854775807 then ((str_Split.f (((((⟨#[47, 47]⟩ : ByteArray) ++ t155) ++ (⟨#[47, 46, 47]⟩ : ByteArray)) ++ t156) ++ (⟨#[47]⟩ : ByteArray))).bind fun t166 => (if (t163.length : Int) = (wrap64 ((t157.length : Int) + (t160.length : Int))) then (mudlarklaw02_StrJoins.j0 k t157 t160 t163 t166 ((t166.length : Int) != (t163.length : Int))) else (mudlarklaw02_StrJoins.j0 k t157 t160 t163 t166 true))) else (none)) else (none)) else (none)) else (none))) else (none)) else (none)))))) = some r := h
  clear h
  replace H := Option.bind_eq_some_iff.mp H
  obtain ⟨t155, A30, H⟩ := H
  replace H : ((mudlarklaw02_Path.f k l1).bind fun t156 => ((str_Split.f t155).bind fun t157 => ((str_Split.f t156).bind fun t160 => (if t155.size + 1 ≤ 9223372036854775807 then (if (t155 ++ (⟨#[47]⟩ : ByteArray)).size + t156.size ≤ 9223372036854775807 then ((str_Split.f ((t155 ++ (⟨#[47]⟩ : ByteArray)) ++ t156)).bind fun t163 => (if 2 + t155.size ≤ 9223372036854775807 then (if ((⟨#[47, 47]⟩ : ByteArray) ++ t155).size + 3 ≤ 9223372036854775807 then (if (((⟨#[47, 47]⟩ : ByteArray) ++ t155) ++ (⟨#[47, 46, 47]⟩ : ByteArray)).size + t156.size ≤ 9223372036854775807 then (if ((((⟨#[47, 47]⟩ : ByteArray) ++ t155) ++ (⟨#[47, 46, 47]⟩ : ByteArray)) ++ t156).size + 1 ≤ 9223372036854775807 then ((str_Split.f (((((⟨#[47, 47]⟩ : ByteArray) ++ t155) ++ (⟨#[47, 46, 47]⟩ : ByteArray)) ++ t156) ++ (⟨#[47]⟩ : ByteArray))).bind fun t166 => (if (t163.length : Int) = (wrap64 ((t157.length : Int) + (t160.length : Int))) then (mudlarklaw02_StrJoins.j0 k t157 t160 t163 t166 ((t166.length : Int) != (t163.length : Int))) else (mudlarklaw02_StrJoins.j0 k t157 t160 t163 t166 true))) else (none)) else (none)) else (none)) else (none))) else (none)) else (none))))) = some r := H
  have A3 := Aside0.mk A30
  clear A30
  replace H := Option.bind_eq_some_iff.mp H
  obtain ⟨t156, A40, H⟩ := H
  replace H : ((str_Split.f t155).bind fun t157 => ((str_Split.f t156).bind fun t160 => (if t155.size + 1 ≤ 9223372036854775807 then (if (t155 ++ (⟨#[47]⟩ : ByteArray)).size + t156.size ≤ 9223372036854775807 then ((str_Split.f ((t155 ++ (⟨#[47]⟩ : ByteArray)) ++ t156)).bind fun t163 => (if 2 + t155.size ≤ 9223372036854775807 then (if ((⟨#[47, 47]⟩ : ByteArray) ++ t155).size + 3 ≤ 9223372036854775807 then (if (((⟨#[47, 47]⟩ : ByteArray) ++ t155) ++ (⟨#[47, 46, 47]⟩ : ByteArray)).size + t156.size ≤ 9223372036854775807 then (if ((((⟨#[47, 47]⟩ : ByteArray) ++ t155) ++ (⟨#[47, 46, 47]⟩ : ByteArray)) ++ t156).size + 1 ≤ 9223372036854775807 then ((str_Split.f (((((⟨#[47, 47]⟩ : ByteArray) ++ t155) ++ (⟨#[47, 46, 47]⟩ : ByteArray)) ++ t156) ++ (⟨#[47]⟩ : ByteArray))).bind fun t166 => (if (t163.length : Int) = (wrap64 ((t157.length : Int) + (t160.length : Int))) then (mudlarklaw02_StrJoins.j0 k t157 t160 t163 t166 ((t166.length : Int) != (t163.length : Int))) else (mudlarklaw02_StrJoins.j0 k t157 t160 t163 t166 true))) else (none)) else (none)) else (none)) else (none))) else (none)) else (none)))) = some r := H
  have A4 := Aside0.mk A40
  clear A40
  replace H := Option.bind_eq_some_iff.mp H
  obtain ⟨t157, A50, H⟩ := H
  replace H : ((str_Split.f t156).bind fun t160 => (if t155.size + 1 ≤ 9223372036854775807 then (if (t155 ++ (⟨#[47]⟩ : ByteArray)).size + t156.size ≤ 9223372036854775807 then ((str_Split.f ((t155 ++ (⟨#[47]⟩ : ByteArray)) ++ t156)).bind fun t163 => (if 2 + t155.size ≤ 9223372036854775807 then (if ((⟨#[47, 47]⟩ : ByteArray) ++ t155).size + 3 ≤ 9223372036854775807 then (if (((⟨#[47, 47]⟩ : ByteArray) ++ t155) ++ (⟨#[47, 46, 47]⟩ : ByteArray)).size + t156.size ≤ 9223372036854775807 then (if ((((⟨#[47, 47]⟩ : ByteArray) ++ t155) ++ (⟨#[47, 46, 47]⟩ : ByteArray)) ++ t156).size + 1 ≤ 9223372036854775807 then ((str_Split.f (((((⟨#[47, 47]⟩ : ByteArray) ++ t155) ++ (⟨#[47, 46, 47]⟩ : ByteArray)) ++ t156) ++ (⟨#[47]⟩ : ByteArray))).bind fun t166 => (if (t163.length : Int) = (wrap64 ((t157.length : Int) + (t160.length : Int))) then (mudlarklaw02_StrJoins.j0 k t157 t160 t163 t166 ((t166.length : Int) != (t163.length : Int))) else (mudlarklaw02_StrJoins.j0 k t157 t160 t163 t166 true))) else (none)) else (none)) else (none)) else (none))) else (none)) else (none))) = some r := H
  have A5 := Aside0.mk A50
  clear A50
  replace H := Option.bind_eq_some_iff.mp H
  obtain ⟨t160, A60, H⟩ := H
  replace H : (if t155.size + 1 ≤ 9223372036854775807 then (if (t155 ++ (⟨#[47]⟩ : ByteArray)).size + t156.size ≤ 9223372036854775807 then ((str_Split.f ((t155 ++ (⟨#[47]⟩ : ByteArray)) ++ t156)).bind fun t163 => (if 2 + t155.size ≤ 9223372036854775807 then (if ((⟨#[47, 47]⟩ : ByteArray) ++ t155).size + 3 ≤ 9223372036854775807 then (if (((⟨#[47, 47]⟩ : ByteArray) ++ t155) ++ (⟨#[47, 46, 47]⟩ : ByteArray)).size + t156.size ≤ 9223372036854775807 then (if ((((⟨#[47, 47]⟩ : ByteArray) ++ t155) ++ (⟨#[47, 46, 47]⟩ : ByteArray)) ++ t156).size + 1 ≤ 9223372036854775807 then ((str_Split.f (((((⟨#[47, 47]⟩ : ByteArray) ++ t155) ++ (⟨#[47, 46, 47]⟩ : ByteArray)) ++ t156) ++ (⟨#[47]⟩ : ByteArray))).bind fun t166 => (if (t163.length : Int) = (wrap64 ((t157.length : Int) + (t160.length : Int))) then (mudlarklaw02_StrJoins.j0 k t157 t160 t163 t166 ((t166.length : Int) != (t163.length : Int))) else (mudlarklaw02_StrJoins.j0 k t157 t160 t163 t166 true))) else (none)) else (none)) else (none)) else (none))) else (none)) else (none)) = some r := H
  have A6 := Aside0.mk A60
  clear A60
  by_cases c7 : t155.size + 1 ≤ 9223372036854775807
  · rw [if_pos c7] at H
    have c7b0 := eq_true c7
    have c7b1 : decide (t155.size + 1 ≤ 9223372036854775807) = true := decide_eq_true c7
    try have c7b2 : (9223372036854775807 < t155.size + 1) = False := eq_false (Nat.not_lt.2 c7)
    by_cases c8 : (t155 ++ (⟨#[47]⟩ : ByteArray)).size + t156.size ≤ 9223372036854775807
    · rw [if_pos c8] at H
      have c8b0 := eq_true c8
      have c8b1 : decide ((t155 ++ (⟨#[47]⟩ : ByteArray)).size + t156.size ≤ 9223372036854775807) = true := decide_eq_true c8
      try have c8b2 : (9223372036854775807 < (t155 ++ (⟨#[47]⟩ : ByteArray)).size + t156.size) = False := eq_false (Nat.not_lt.2 c8)
      (try have c8n : (9223372036854775807 < t155.size + 1 + t156.size) = False := eq_false (by have h_ := c8; simp only [ByteArray.size_append, ByteArray.size_extract] at h_; have : (⟨#[47]⟩ : ByteArray).size = 1 := rfl; omega))
      replace H := Option.bind_eq_some_iff.mp H
      obtain ⟨t163, A90, H⟩ := H
      replace H : (if 2 + t155.size ≤ 9223372036854775807 then (if ((⟨#[47, 47]⟩ : ByteArray) ++ t155).size + 3 ≤ 9223372036854775807 then (if (((⟨#[47, 47]⟩ : ByteArray) ++ t155) ++ (⟨#[47, 46, 47]⟩ : ByteArray)).size + t156.size ≤ 9223372036854775807 then (if ((((⟨#[47, 47]⟩ : ByteArray) ++ t155) ++ (⟨#[47, 46, 47]⟩ : ByteArray)) ++ t156).size + 1 ≤ 9223372036854775807 then ((str_Split.f (((((⟨#[47, 47]⟩ : ByteArray) ++ t155) ++ (⟨#[47, 46, 47]⟩ : ByteArray)) ++ t156) ++ (⟨#[47]⟩ : ByteArray))).bind fun t166 => (if (t163.length : Int) = (wrap64 ((t157.length : Int) + (t160.length : Int))) then (mudlarklaw02_StrJoins.j0 k t157 t160 t163 t166 ((t166.length : Int) != (t163.length : Int))) else (mudlarklaw02_StrJoins.j0 k t157 t160 t163 t166 true))) else (none)) else (none)) else (none)) else (none)) = some r := H
      have A9 := Aside0.mk A90
      clear A90
      by_cases c10 : 2 + t155.size ≤ 9223372036854775807
      · rw [if_pos c10] at H
        have c10b0 := eq_true c10
        have c10b1 : decide (2 + t155.size ≤ 9223372036854775807) = true := decide_eq_true c10
        try have c10b2 : (9223372036854775807 < 2 + t155.size) = False := eq_false (Nat.not_lt.2 c10)
        by_cases c11 : ((⟨#[47, 47]⟩ : ByteArray) ++ t155).size + 3 ≤ 9223372036854775807
        · rw [if_pos c11] at H
          have c11b0 := eq_true c11
          have c11b1 : decide (((⟨#[47, 47]⟩ : ByteArray) ++ t155).size + 3 ≤ 9223372036854775807) = true := decide_eq_true c11
          try have c11b2 : (9223372036854775807 < ((⟨#[47, 47]⟩ : ByteArray) ++ t155).size + 3) = False := eq_false (Nat.not_lt.2 c11)
          (try have c11n : (9223372036854775807 < 2 + t155.size + 3) = False := eq_false (by have h_ := c11; simp only [ByteArray.size_append, ByteArray.size_extract] at h_; have : (⟨#[47, 47]⟩ : ByteArray).size = 2 := rfl; omega))
          by_cases c12 : (((⟨#[47, 47]⟩ : ByteArray) ++ t155) ++ (⟨#[47, 46, 47]⟩ : ByteArray)).size + t156.size ≤ 9223372036854775807
          · rw [if_pos c12] at H
            have c12b0 := eq_true c12
            have c12b1 : decide ((((⟨#[47, 47]⟩ : ByteArray) ++ t155) ++ (⟨#[47, 46, 47]⟩ : ByteArray)).size + t156.size ≤ 9223372036854775807) = true := decide_eq_true c12
            try have c12b2 : (9223372036854775807 < (((⟨#[47, 47]⟩ : ByteArray) ++ t155) ++ (⟨#[47, 46, 47]⟩ : ByteArray)).size + t156.size) = False := eq_false (Nat.not_lt.2 c12)
            (try have c12n : (9223372036854775807 < 2 + t155.size + 3 + t156.size) = False := eq_false (by have h_ := c12; simp only [ByteArray.size_append, ByteArray.size_extract] at h_; have : (⟨#[47, 46, 47]⟩ : ByteArray).size = 3 := rfl; have : (⟨#[47, 47]⟩ : ByteArray).size = 2 := rfl; omega))
            by_cases c13 : ((((⟨#[47, 47]⟩ : ByteArray) ++ t155) ++ (⟨#[47, 46, 47]⟩ : ByteArray)) ++ t156).size + 1 ≤ 9223372036854775807
            · rw [if_pos c13] at H
              have c13b0 := eq_true c13
              have c13b1 : decide (((((⟨#[47, 47]⟩ : ByteArray) ++ t155) ++ (⟨#[47, 46, 47]⟩ : ByteArray)) ++ t156).size + 1 ≤ 9223372036854775807) = true := decide_eq_true c13
              try have c13b2 : (9223372036854775807 < ((((⟨#[47, 47]⟩ : ByteArray) ++ t155) ++ (⟨#[47, 46, 47]⟩ : ByteArray)) ++ t156).size + 1) = False := eq_false (Nat.not_lt.2 c13)
              (try have c13n : (9223372036854775807 < 2 + t155.size + 3 + t156.size + 1) = False := eq_false (by have h_ := c13; simp only [ByteArray.size_append, ByteArray.size_extract] at h_; have : (⟨#[47, 46, 47]⟩ : ByteArray).size = 3 := rfl; have : (⟨#[47, 47]⟩ : ByteArray).size = 2 := rfl; omega))
              replace H := Option.bind_eq_some_iff.mp H
              obtain ⟨t166, A140, H⟩ := H
              replace H : (if (t163.length : Int) = (wrap64 ((t157.length : Int) + (t160.length : Int))) then (mudlarklaw02_StrJoins.j0 k t157 t160 t163 t166 ((t166.length : Int) != (t163.length : Int))) else (mudlarklaw02_StrJoins.j0 k t157 t160 t163 t166 true)) = some r := H
              have A14 := Aside0.mk A140
              clear A140
              have HC15 := Aside0.mk H
              clear H
              go_enter Tryd.func3, Tryd.ntmps3
              go_upto_region 7 with (first | (go_at_call 10; (with_reducible refine (mudlarklaw02_Path.calls k _ _ l0 t155 _ ?side1 ?side2 A3.out).mono ?_); (case side1 => repeat (first | exact HR0.out | (with_reducible refine Kd.C_alloc ?_ _) | (with_reducible refine Kd.C_drewN ?_ _) | (with_reducible refine Kd.C_drew ?_))); (case side2 => exact HC0.out); rintro e w16 ⟨rfl, hb⟩; have n0_ := Aside0.mk (below_step (by repeat (first | (with_reducible first | exact HB.out | apply below_alloc | apply pw_below_drewN | apply below_drew1) | exact HB.out)) hb); clear HB; have HB := n0_; clear n0_; (try clear hb); (try clear hb2); (try clear hk); (try clear hi)) | (go_at_call 10; (with_reducible refine (mudlarklaw02_Path.calls k _ _ l1 t156 _ ?side1 ?side2 A4.out).mono ?_); (case side1 => repeat (first | exact (Kd.C_below HR1.out HB.out) | (with_reducible refine Kd.C_alloc ?_ _) | (with_reducible refine Kd.C_drewN ?_ _) | (with_reducible refine Kd.C_drew ?_))); (case side2 => exact HC1.out); rintro e w17 ⟨rfl, hb⟩; have n0_ := Aside0.mk (below_step (by repeat (first | (with_reducible first | exact HB.out | apply below_alloc | apply pw_below_drewN | apply below_drew1) | exact HB.out)) hb); clear HB; have HB := n0_; clear n0_; (try clear hb); (try clear hb2); (try clear hk); (try clear hi)) | (go_at_call 11; (with_reducible refine (str_Split.calls t155 t157 _ A5.out).mono ?_); rintro e w18 ⟨v158, rfl, ho0, hb⟩; have n0_ := Aside0.mk (Kd.R_lower ho0 (below_size (by repeat (first | (with_reducible first | exact HB.out | apply below_alloc | apply pw_below_drewN | apply below_drew1) | exact HB.out)))); have n1_ := Aside0.mk (below_step (by repeat (first | (with_reducible first | exact HB.out | apply below_alloc | apply pw_below_drewN | apply below_drew1) | exact HB.out)) hb); clear HB; have HO159 := n0_; have HB := n1_; clear n0_ n1_; (try clear hb); (try clear hb2); (try clear hk); (try clear hi); (try clear ho0)) | (go_at_call 11; (with_reducible refine (str_Split.calls t156 t160 _ A6.out).mono ?_); rintro e w19 ⟨v161, rfl, ho0, hb⟩; have n0_ := Aside0.mk (Kd.R_elder' (by (with_reducible repeat (first | apply Kd.R_alloc | apply Kd.R_drewN | apply Kd.R_drew)); exact HO159.out) (Kd.R_base ho0) hb); have n1_ := Aside0.mk (Kd.R_lower (Kd.R_new' ho0 (Kd.R_lt (by (with_reducible repeat (first | apply Kd.R_alloc | apply Kd.R_drewN | apply Kd.R_drew)); exact HO159.out))) (below_size (by repeat (first | (with_reducible first | exact HB.out | apply below_alloc | apply pw_below_drewN | apply below_drew1) | exact HB.out)))); have n2_ := Aside0.mk (below_step (by repeat (first | (with_reducible first | exact HB.out | apply below_alloc | apply pw_below_drewN | apply below_drew1) | exact HB.out)) hb); clear HO159; clear HB; have HO159 := n0_; have HO162 := n1_; have HB := n2_; clear n0_ n1_ n2_; (try clear hb); (try clear hb2); (try clear hk); (try clear hi); (try clear ho0)) | (go_at_call 11; (with_reducible refine (str_Split.calls ((t155 ++ (⟨#[47]⟩ : ByteArray)) ++ t156) t163 _ A9.out).mono ?_); rintro e w20 ⟨v164, rfl, ho0, hb⟩; have n0_ := Aside0.mk (Kd.R_elder' (by (with_reducible repeat (first | apply Kd.R_alloc | apply Kd.R_drewN | apply Kd.R_drew)); exact HO159.out) (Kd.R_base ho0) hb); have n1_ := Aside0.mk (Kd.R_elder' (by (with_reducible repeat (first | apply Kd.R_alloc | apply Kd.R_drewN | apply Kd.R_drew)); exact HO162.out) (Kd.R_base ho0) hb); have n2_ := Aside0.mk (Kd.R_lower (Kd.R_new' (Kd.R_new' ho0 (Kd.R_lt (by (with_reducible repeat (first | apply Kd.R_alloc | apply Kd.R_drewN | apply Kd.R_drew)); exact HO159.out))) (Kd.R_lt (by (with_reducible repeat (first | apply Kd.R_alloc | apply Kd.R_drewN | apply Kd.R_drew)); exact HO162.out))) (below_size (by repeat (first | (with_reducible first | exact HB.out | apply below_alloc | apply pw_below_drewN | apply below_drew1) | exact HB.out)))); have n3_ := Aside0.mk (below_step (by repeat (first | (with_reducible first | exact HB.out | apply below_alloc | apply pw_below_drewN | apply below_drew1) | exact HB.out)) hb); clear HO159; clear HO162; clear HB; have HO159 := n0_; have HO162 := n1_; have HO165 := n2_; have HB := n3_; clear n0_ n1_ n2_ n3_; (try clear hb); (try clear hb2); (try clear hk); (try clear hi); (try clear ho0)) | (go_at_call 11; (with_reducible refine (str_Split.calls (((((⟨#[47, 47]⟩ : ByteArray) ++ t155) ++ (⟨#[47, 46, 47]⟩ : ByteArray)) ++ t156) ++ (⟨#[47]⟩ : ByteArray)) t166 _ A14.out).mono ?_); rintro e w21 ⟨v167, rfl, ho0, hb⟩; have n0_ := Aside0.mk (Kd.R_elder' (by (with_reducible repeat (first | apply Kd.R_alloc | apply Kd.R_drewN | apply Kd.R_drew)); exact HO159.out) (Kd.R_base ho0) hb); have n1_ := Aside0.mk (Kd.R_elder' (by (with_reducible repeat (first | apply Kd.R_alloc | apply Kd.R_drewN | apply Kd.R_drew)); exact HO162.out) (Kd.R_base ho0) hb); have n2_ := Aside0.mk (Kd.R_elder' (by (with_reducible repeat (first | apply Kd.R_alloc | apply Kd.R_drewN | apply Kd.R_drew)); exact HO165.out) (Kd.R_base ho0) hb); have n3_ := Aside0.mk (Kd.R_lower (Kd.R_new' (Kd.R_new' (Kd.R_new' ho0 (Kd.R_lt (by (with_reducible repeat (first | apply Kd.R_alloc | apply Kd.R_drewN | apply Kd.R_drew)); exact HO159.out))) (Kd.R_lt (by (with_reducible repeat (first | apply Kd.R_alloc | apply Kd.R_drewN | apply Kd.R_drew)); exact HO162.out))) (Kd.R_lt (by (with_reducible repeat (first | apply Kd.R_alloc | apply Kd.R_drewN | apply Kd.R_drew)); exact HO165.out))) (below_size (by repeat (first | (with_reducible first | exact HB.out | apply below_alloc | apply pw_below_drewN | apply below_drew1) | exact HB.out)))); have n4_ := Aside0.mk (below_step (by repeat (first | (with_reducible first | exact HB.out | apply below_alloc | apply pw_below_drewN | apply below_drew1) | exact HB.out)) hb); clear HO159; clear HO162; clear HO165; clear HB; have HO159 := n0_; have HO162 := n1_; have HO165 := n2_; have HO168 := n3_; have HB := n4_; clear n0_ n1_ n2_ n3_ n4_; (try clear hb); (try clear hb2); (try clear hk); (try clear hi); (try clear ho0)))
              repeat (go_quiet (first | (go_at_call 10; (with_reducible refine (mudlarklaw02_Path.calls k _ _ l0 t155 _ ?side1 ?side2 A3.out).mono ?_); (case side1 => repeat (first | exact HR0.out | (with_reducible refine Kd.C_alloc ?_ _) | (with_reducible refine Kd.C_drewN ?_ _) | (with_reducible refine Kd.C_drew ?_))); (case side2 => exact HC0.out); rintro e w16 ⟨rfl, hb⟩; have n0_ := Aside0.mk (below_step (by repeat (first | (with_reducible first | exact HB.out | apply below_alloc | apply pw_below_drewN | apply below_drew1) | exact HB.out)) hb); clear HB; have HB := n0_; clear n0_; (try clear hb); (try clear hb2); (try clear hk); (try clear hi)) | (go_at_call 10; (with_reducible refine (mudlarklaw02_Path.calls k _ _ l1 t156 _ ?side1 ?side2 A4.out).mono ?_); (case side1 => repeat (first | exact (Kd.C_below HR1.out HB.out) | (with_reducible refine Kd.C_alloc ?_ _) | (with_reducible refine Kd.C_drewN ?_ _) | (with_reducible refine Kd.C_drew ?_))); (case side2 => exact HC1.out); rintro e w17 ⟨rfl, hb⟩; have n0_ := Aside0.mk (below_step (by repeat (first | (with_reducible first | exact HB.out | apply below_alloc | apply pw_below_drewN | apply below_drew1) | exact HB.out)) hb); clear HB; have HB := n0_; clear n0_; (try clear hb); (try clear hb2); (try clear hk); (try clear hi)) | (go_at_call 11; (with_reducible refine (str_Split.calls t155 t157 _ A5.out).mono ?_); rintro e w18 ⟨v158, rfl, ho0, hb⟩; have n0_ := Aside0.mk (Kd.R_lower ho0 (below_size (by repeat (first | (with_reducible first | exact HB.out | apply below_alloc | apply pw_below_drewN | apply below_drew1) | exact HB.out)))); have n1_ := Aside0.mk (below_step (by repeat (first | (with_reducible first | exact HB.out | apply below_alloc | apply pw_below_drewN | apply below_drew1) | exact HB.out)) hb); clear HB; have HO159 := n0_; have HB := n1_; clear n0_ n1_; (try clear hb); (try clear hb2); (try clear hk); (try clear hi); (try clear ho0)) | (go_at_call 11; (with_reducible refine (str_Split.calls t156 t160 _ A6.out).mono ?_); rintro e w19 ⟨v161, rfl, ho0, hb⟩; have n0_ := Aside0.mk (Kd.R_elder' (by (with_reducible repeat (first | apply Kd.R_alloc | apply Kd.R_drewN | apply Kd.R_drew)); exact HO159.out) (Kd.R_base ho0) hb); have n1_ := Aside0.mk (Kd.R_lower (Kd.R_new' ho0 (Kd.R_lt (by (with_reducible repeat (first | apply Kd.R_alloc | apply Kd.R_drewN | apply Kd.R_drew)); exact HO159.out))) (below_size (by repeat (first | (with_reducible first | exact HB.out | apply below_alloc | apply pw_below_drewN | apply below_drew1) | exact HB.out)))); have n2_ := Aside0.mk (below_step (by repeat (first | (with_reducible first | exact HB.out | apply below_alloc | apply pw_below_drewN | apply below_drew1) | exact HB.out)) hb); clear HO159; clear HB; have HO159 := n0_; have HO162 := n1_; have HB := n2_; clear n0_ n1_ n2_; (try clear hb); (try clear hb2); (try clear hk); (try clear hi); (try clear ho0)) | (go_at_call 11; (with_reducible refine (str_Split.calls ((t155 ++ (⟨#[47]⟩ : ByteArray)) ++ t156) t163 _ A9.out).mono ?_); rintro e w20 ⟨v164, rfl, ho0, hb⟩; have n0_ := Aside0.mk (Kd.R_elder' (by (with_reducible repeat (first | apply Kd.R_alloc | apply Kd.R_drewN | apply Kd.R_drew)); exact HO159.out) (Kd.R_base ho0) hb); have n1_ := Aside0.mk (Kd.R_elder' (by (with_reducible repeat (first | apply Kd.R_alloc | apply Kd.R_drewN | apply Kd.R_drew)); exact HO162.out) (Kd.R_base ho0) hb); have n2_ := Aside0.mk (Kd.R_lower (Kd.R_new' (Kd.R_new' ho0 (Kd.R_lt (by (with_reducible repeat (first | apply Kd.R_alloc | apply Kd.R_drewN | apply Kd.R_drew)); exact HO159.out))) (Kd.R_lt (by (with_reducible repeat (first | apply Kd.R_alloc | apply Kd.R_drewN | apply Kd.R_drew)); exact HO162.out))) (below_size (by repeat (first | (with_reducible first | exact HB.out | apply below_alloc | apply pw_below_drewN | apply below_drew1) | exact HB.out)))); have n3_ := Aside0.mk (below_step (by repeat (first | (with_reducible first | exact HB.out | apply below_alloc | apply pw_below_drewN | apply below_drew1) | exact HB.out)) hb); clear HO159; clear HO162; clear HB; have HO159 := n0_; have HO162 := n1_; have HO165 := n2_; have HB := n3_; clear n0_ n1_ n2_ n3_; (try clear hb); (try clear hb2); (try clear hk); (try clear hi); (try clear ho0)) | (go_at_call 11; (with_reducible refine (str_Split.calls (((((⟨#[47, 47]⟩ : ByteArray) ++ t155) ++ (⟨#[47, 46, 47]⟩ : ByteArray)) ++ t156) ++ (⟨#[47]⟩ : ByteArray)) t166 _ A14.out).mono ?_); rintro e w21 ⟨v167, rfl, ho0, hb⟩; have n0_ := Aside0.mk (Kd.R_elder' (by (with_reducible repeat (first | apply Kd.R_alloc | apply Kd.R_drewN | apply Kd.R_drew)); exact HO159.out) (Kd.R_base ho0) hb); have n1_ := Aside0.mk (Kd.R_elder' (by (with_reducible repeat (first | apply Kd.R_alloc | apply Kd.R_drewN | apply Kd.R_drew)); exact HO162.out) (Kd.R_base ho0) hb); have n2_ := Aside0.mk (Kd.R_elder' (by (with_reducible repeat (first | apply Kd.R_alloc | apply Kd.R_drewN | apply Kd.R_drew)); exact HO165.out) (Kd.R_base ho0) hb); have n3_ := Aside0.mk (Kd.R_lower (Kd.R_new' (Kd.R_new' (Kd.R_new' ho0 (Kd.R_lt (by (with_reducible repeat (first | apply Kd.R_alloc | apply Kd.R_drewN | apply Kd.R_drew)); exact HO159.out))) (Kd.R_lt (by (with_reducible repeat (first | apply Kd.R_alloc | apply Kd.R_drewN | apply Kd.R_drew)); exact HO162.out))) (Kd.R_lt (by (with_reducible repeat (first | apply Kd.R_alloc | apply Kd.R_drewN | apply Kd.R_drew)); exact HO165.out))) (below_size (by repeat (first | (with_reducible first | exact HB.out | apply below_alloc | apply pw_below_drewN | apply below_drew1) | exact HB.out)))); have n4_ := Aside0.mk (below_step (by repeat (first | (with_reducible first | exact HB.out | apply below_alloc | apply pw_below_drewN | apply below_drew1) | exact HB.out)) hb); clear HO159; clear HO162; clear HO165; clear HB; have HO159 := n0_; have HO162 := n1_; have HO165 := n2_; have HO168 := n3_; have HB := n4_; clear n0_ n1_ n2_ n3_ n4_; (try clear hb); (try clear hb2); (try clear hk); (try clear hi); (try clear ho0))); go_upto_region 7 with (first | (go_at_call 10; (with_reducible refine (mudlarklaw02_Path.calls k _ _ l0 t155 _ ?side1 ?side2 A3.out).mono ?_); (case side1 => repeat (first | exact HR0.out | (with_reducible refine Kd.C_alloc ?_ _) | (with_reducible refine Kd.C_drewN ?_ _) | (with_reducible refine Kd.C_drew ?_))); (case side2 => exact HC0.out); rintro e w16 ⟨rfl, hb⟩; have n0_ := Aside0.mk (below_step (by repeat (first | (with_reducible first | exact HB.out | apply below_alloc | apply pw_below_drewN | apply below_drew1) | exact HB.out)) hb); clear HB; have HB := n0_; clear n0_; (try clear hb); (try clear hb2); (try clear hk); (try clear hi)) | (go_at_call 10; (with_reducible refine (mudlarklaw02_Path.calls k _ _ l1 t156 _ ?side1 ?side2 A4.out).mono ?_); (case side1 => repeat (first | exact (Kd.C_below HR1.out HB.out) | (with_reducible refine Kd.C_alloc ?_ _) | (with_reducible refine Kd.C_drewN ?_ _) | (with_reducible refine Kd.C_drew ?_))); (case side2 => exact HC1.out); rintro e w17 ⟨rfl, hb⟩; have n0_ := Aside0.mk (below_step (by repeat (first | (with_reducible first | exact HB.out | apply below_alloc | apply pw_below_drewN | apply below_drew1) | exact HB.out)) hb); clear HB; have HB := n0_; clear n0_; (try clear hb); (try clear hb2); (try clear hk); (try clear hi)) | (go_at_call 11; (with_reducible refine (str_Split.calls t155 t157 _ A5.out).mono ?_); rintro e w18 ⟨v158, rfl, ho0, hb⟩; have n0_ := Aside0.mk (Kd.R_lower ho0 (below_size (by repeat (first | (with_reducible first | exact HB.out | apply below_alloc | apply pw_below_drewN | apply below_drew1) | exact HB.out)))); have n1_ := Aside0.mk (below_step (by repeat (first | (with_reducible first | exact HB.out | apply below_alloc | apply pw_below_drewN | apply below_drew1) | exact HB.out)) hb); clear HB; have HO159 := n0_; have HB := n1_; clear n0_ n1_; (try clear hb); (try clear hb2); (try clear hk); (try clear hi); (try clear ho0)) | (go_at_call 11; (with_reducible refine (str_Split.calls t156 t160 _ A6.out).mono ?_); rintro e w19 ⟨v161, rfl, ho0, hb⟩; have n0_ := Aside0.mk (Kd.R_elder' (by (with_reducible repeat (first | apply Kd.R_alloc | apply Kd.R_drewN | apply Kd.R_drew)); exact HO159.out) (Kd.R_base ho0) hb); have n1_ := Aside0.mk (Kd.R_lower (Kd.R_new' ho0 (Kd.R_lt (by (with_reducible repeat (first | apply Kd.R_alloc | apply Kd.R_drewN | apply Kd.R_drew)); exact HO159.out))) (below_size (by repeat (first | (with_reducible first | exact HB.out | apply below_alloc | apply pw_below_drewN | apply below_drew1) | exact HB.out)))); have n2_ := Aside0.mk (below_step (by repeat (first | (with_reducible first | exact HB.out | apply below_alloc | apply pw_below_drewN | apply below_drew1) | exact HB.out)) hb); clear HO159; clear HB; have HO159 := n0_; have HO162 := n1_; have HB := n2_; clear n0_ n1_ n2_; (try clear hb); (try clear hb2); (try clear hk); (try clear hi); (try clear ho0)) | (go_at_call 11; (with_reducible refine (str_Split.calls ((t155 ++ (⟨#[47]⟩ : ByteArray)) ++ t156) t163 _ A9.out).mono ?_); rintro e w20 ⟨v164, rfl, ho0, hb⟩; have n0_ := Aside0.mk (Kd.R_elder' (by (with_reducible repeat (first | apply Kd.R_alloc | apply Kd.R_drewN | apply Kd.R_drew)); exact HO159.out) (Kd.R_base ho0) hb); have n1_ := Aside0.mk (Kd.R_elder' (by (with_reducible repeat (first | apply Kd.R_alloc | apply Kd.R_drewN | apply Kd.R_drew)); exact HO162.out) (Kd.R_base ho0) hb); have n2_ := Aside0.mk (Kd.R_lower (Kd.R_new' (Kd.R_new' ho0 (Kd.R_lt (by (with_reducible repeat (first | apply Kd.R_alloc | apply Kd.R_drewN | apply Kd.R_drew)); exact HO159.out))) (Kd.R_lt (by (with_reducible repeat (first | apply Kd.R_alloc | apply Kd.R_drewN | apply Kd.R_drew)); exact HO162.out))) (below_size (by repeat (first | (with_reducible first | exact HB.out | apply below_alloc | apply pw_below_drewN | apply below_drew1) | exact HB.out)))); have n3_ := Aside0.mk (below_step (by repeat (first | (with_reducible first | exact HB.out | apply below_alloc | apply pw_below_drewN | apply below_drew1) | exact HB.out)) hb); clear HO159; clear HO162; clear HB; have HO159 := n0_; have HO162 := n1_; have HO165 := n2_; have HB := n3_; clear n0_ n1_ n2_ n3_; (try clear hb); (try clear hb2); (try clear hk); (try clear hi); (try clear ho0)) | (go_at_call 11; (with_reducible refine (str_Split.calls (((((⟨#[47, 47]⟩ : ByteArray) ++ t155) ++ (⟨#[47, 46, 47]⟩ : ByteArray)) ++ t156) ++ (⟨#[47]⟩ : ByteArray)) t166 _ A14.out).mono ?_); rintro e w21 ⟨v167, rfl, ho0, hb⟩; have n0_ := Aside0.mk (Kd.R_elder' (by (with_reducible repeat (first | apply Kd.R_alloc | apply Kd.R_drewN | apply Kd.R_drew)); exact HO159.out) (Kd.R_base ho0) hb); have n1_ := Aside0.mk (Kd.R_elder' (by (with_reducible repeat (first | apply Kd.R_alloc | apply Kd.R_drewN | apply Kd.R_drew)); exact HO162.out) (Kd.R_base ho0) hb); have n2_ := Aside0.mk (Kd.R_elder' (by (with_reducible repeat (first | apply Kd.R_alloc | apply Kd.R_drewN | apply Kd.R_drew)); exact HO165.out) (Kd.R_base ho0) hb); have n3_ := Aside0.mk (Kd.R_lower (Kd.R_new' (Kd.R_new' (Kd.R_new' ho0 (Kd.R_lt (by (with_reducible repeat (first | apply Kd.R_alloc | apply Kd.R_drewN | apply Kd.R_drew)); exact HO159.out))) (Kd.R_lt (by (with_reducible repeat (first | apply Kd.R_alloc | apply Kd.R_drewN | apply Kd.R_drew)); exact HO162.out))) (Kd.R_lt (by (with_reducible repeat (first | apply Kd.R_alloc | apply Kd.R_drewN | apply Kd.R_drew)); exact HO165.out))) (below_size (by repeat (first | (with_reducible first | exact HB.out | apply below_alloc | apply pw_below_drewN | apply below_drew1) | exact HB.out)))); have n4_ := Aside0.mk (below_step (by repeat (first | (with_reducible first | exact HB.out | apply below_alloc | apply pw_below_drewN | apply below_drew1) | exact HB.out)) hb); clear HO159; clear HO162; clear HO165; clear HB; have HO159 := n0_; have HO162 := n1_; have HO165 := n2_; have HO168 := n3_; have HB := n4_; clear n0_ n1_ n2_ n3_ n4_; (try clear hb); (try clear hb2); (try clear hk); (try clear hi); (try clear ho0))))
              (try simp only [Act.put, List.setIfInBounds_toArray, List.set_cons_zero, List.set_cons_succ])
              go_cut [46] (fun v46 wc => ∃ (kq : Nat) (x46_14 : Bool), v46 = .bool x46_14 ∧ Aside0 (mudlarklaw02_StrJoins.j0 kq t157 t160 t163 t166 x46_14 = some r) ∧ Aside0 (kq ≤ k) ∧ Aside0 (Kd.R Kd.string 9 wc w.heap.size (fun k_ => some k_ ≠ (v161 : Value).ownBlock ∧ some k_ ≠ (v164 : Value).ownBlock ∧ some k_ ≠ (v167 : Value).ownBlock) v158 t157) ∧ Aside0 (Kd.R Kd.string 9 wc w.heap.size (fun k_ => some k_ ≠ (v158 : Value).ownBlock ∧ some k_ ≠ (v164 : Value).ownBlock ∧ some k_ ≠ (v167 : Value).ownBlock) v161 t160) ∧ Aside0 (Kd.R Kd.string 9 wc w.heap.size (fun k_ => some k_ ≠ (v158 : Value).ownBlock ∧ some k_ ≠ (v161 : Value).ownBlock ∧ some k_ ≠ (v167 : Value).ownBlock) v164 t163) ∧ Aside0 (Kd.R Kd.string 9 wc w.heap.size (fun k_ => some k_ ≠ (v158 : Value).ownBlock ∧ some k_ ≠ (v161 : Value).ownBlock ∧ some k_ ≠ (v164 : Value).ownBlock) v167 t166) ∧ Aside0 (Below w.heap.size w wc))
              case first =>
                have H := HC15.out
                clear HC15
                by_cases c22 : (t163.length : Int) = (wrap64 ((t157.length : Int) + (t160.length : Int)))
                · rw [if_pos c22] at H
                  have c22b0 : ((t163.length : Int) == (wrap64 ((t157.length : Int) + (t160.length : Int)))) = true := beq_iff_eq.mpr c22
                  have c22b1 : ((t163.length : Int) != (wrap64 ((t157.length : Int) + (t160.length : Int)))) = false := bne_eq_false_iff_eq.mpr c22
                  clear c22
                  (first | rw [c22b0] | (simp only [i64_w, i32_w]; rw [c22b0]) | skip)
                  have H' := Aside0.mk H
                  clear H
                  obtain ⟨Ao23, co23, eo23⟩ := Kd.R_slice HO165.out
                  subst eo23
                  obtain ⟨Ao24, co24, eo24⟩ := Kd.R_slice HO159.out
                  subst eo24
                  obtain ⟨Ao25, co25, eo25⟩ := Kd.R_slice HO162.out
                  subst eo25
                  obtain ⟨Ao26, co26, eo26⟩ := Kd.R_slice HO168.out
                  subst eo26
                  go_wp2
                  repeat (go_quiet (fail); try go_wp2)
                  go_meet
                  case rel => exact ⟨_, (((t166.length : Int) != (t163.length : Int))), (by first | rfl | (simp; done) | (simp [*]; done)), H', ⟨by first | omega | exact Nat.le_refl _⟩, ⟨by (with_reducible repeat (first | apply Kd.R_alloc | apply Kd.R_drewN | apply Kd.R_drew)); exact Kd.R_mono HO159.out (fun _ hk => ⟨hk.1.1.2, ⟨hk.1.2, hk.2⟩⟩)⟩, ⟨by (with_reducible repeat (first | apply Kd.R_alloc | apply Kd.R_drewN | apply Kd.R_drew)); exact Kd.R_mono HO162.out (fun _ hk => ⟨hk.1.1.2, ⟨hk.1.2, hk.2⟩⟩)⟩, ⟨by (with_reducible repeat (first | apply Kd.R_alloc | apply Kd.R_drewN | apply Kd.R_drew)); exact Kd.R_mono HO165.out (fun _ hk => ⟨hk.1.1.2, ⟨hk.1.2, hk.2⟩⟩)⟩, ⟨by (with_reducible repeat (first | apply Kd.R_alloc | apply Kd.R_drewN | apply Kd.R_drew)); exact Kd.R_mono HO168.out (fun _ hk => ⟨hk.1.1.2, ⟨hk.1.2, hk.2⟩⟩)⟩, ⟨by repeat (first | (with_reducible first | exact HB.out | apply below_alloc | apply pw_below_drewN | apply below_drew1) | exact HB.out)⟩⟩
                · rw [if_neg c22] at H
                  have c22b0 : ((t163.length : Int) == (wrap64 ((t157.length : Int) + (t160.length : Int)))) = false := beq_eq_false_iff_ne.mpr c22
                  have c22b1 : ((t163.length : Int) != (wrap64 ((t157.length : Int) + (t160.length : Int)))) = true := bne_iff_ne.mpr c22
                  (first | rw [c22b0] | (simp only [i64_w, i32_w]; rw [c22b0]) | skip)
                  have H' := Aside0.mk H
                  clear H
                  obtain ⟨Ao27, co27, eo27⟩ := Kd.R_slice HO165.out
                  subst eo27
                  obtain ⟨Ao28, co28, eo28⟩ := Kd.R_slice HO159.out
                  subst eo28
                  obtain ⟨Ao29, co29, eo29⟩ := Kd.R_slice HO162.out
                  subst eo29
                  go_wp2
                  repeat (go_quiet (fail); try go_wp2)
                  go_meet
                  case rel => exact ⟨_, (true), (by first | rfl | (simp; done) | (simp [*]; done)), H', ⟨by first | omega | exact Nat.le_refl _⟩, ⟨by (with_reducible repeat (first | apply Kd.R_alloc | apply Kd.R_drewN | apply Kd.R_drew)); exact Kd.R_mono HO159.out (fun _ hk => ⟨hk.1.1.2, ⟨hk.1.2, hk.2⟩⟩)⟩, ⟨by (with_reducible repeat (first | apply Kd.R_alloc | apply Kd.R_drewN | apply Kd.R_drew)); exact Kd.R_mono HO162.out (fun _ hk => ⟨hk.1.1.2, ⟨hk.1.2, hk.2⟩⟩)⟩, ⟨by (with_reducible repeat (first | apply Kd.R_alloc | apply Kd.R_drewN | apply Kd.R_drew)); exact Kd.R_mono HO165.out (fun _ hk => ⟨hk.1.1.2, ⟨hk.1.2, hk.2⟩⟩)⟩, ⟨by (with_reducible repeat (first | apply Kd.R_alloc | apply Kd.R_drewN | apply Kd.R_drew)); exact Kd.R_mono HO168.out (fun _ hk => ⟨hk.1.1.2, ⟨hk.1.2, hk.2⟩⟩)⟩, ⟨by repeat (first | (with_reducible first | exact HB.out | apply below_alloc | apply pw_below_drewN | apply below_drew1) | exact HB.out)⟩⟩
              case rest =>
                clear HC15
                try clear c1
                try clear c2
                try clear p2
                try clear c3
                try clear p6
                try clear c7
                try clear c7b0
                try clear c7b1
                try clear c7b2
                try clear c8
                try clear c8b0
                try clear c8b1
                try clear c8b2
                try clear c10
                try clear c10b0
                try clear c10b1
                try clear c10b2
                try clear c11
                try clear c11b0
                try clear c11b1
                try clear c11b2
                try clear c12
                try clear c12b0
                try clear c12b1
                try clear c12b2
                try clear c13
                try clear c13b0
                try clear c13b1
                try clear c13b2
                try clear c22
                try clear c22b0
                try clear c22b1
                obtain ⟨kq, x46_14, rfl, HA, HJ14, HO_7, HO_8, HO_9, HO_10, HB⟩ := hcut
                cases kq with
                | zero => exact absurd HA.out (by simp [mudlarklaw02_StrJoins.j0])
                | succ kj14 =>
                  have H := HA.out
                  clear HA
                  simp only [mudlarklaw02_StrJoins.j0] at H
                  by_cases c30 : x46_14 = true
                  · subst c30
                    have H1 : (some false) = some r := by rw [if_pos rfl] at H; exact H
                    clear H
                    have H := H1
                    clear H1
                    obtain rfl := Option.some.inj H
                    go_wp2
                    repeat (go_quiet (fail); try go_wp2)
                    go_ret
                    exact ⟨by first | rfl | (simp [errW_none, errW_some] <;> rfl) | (simp [*, errW_none, errW_some] <;> rfl), by repeat (first | (with_reducible first | exact HB.out | apply below_alloc | apply pw_below_drewN | apply below_drew1) | exact HB.out)⟩
                  · replace c30 := Bool.eq_false_iff.mpr c30
                    subst c30
                    have H1 : (mudlarklaw02_StrJoins.l0 kj14 t157 t160 t163 t166 0) = some r := by rw [if_neg (show ¬ (false = true) by decide)] at H; exact H
                    clear H
                    have H := H1
                    clear H1
                    have H' := Aside0.mk H
                    clear H
                    go_wp2
                    repeat (go_quiet (fail); try go_wp2)
                    go_loopg [11] kj14 (fun kq v11 w' => ∃ (x11_2 : Int), v11 = .int .i64 x11_2 ∧ Aside0 (mudlarklaw02_StrJoins.l0 kq t157 t160 t163 t166 x11_2 = some r) ∧ Aside0 (kq ≤ kj14) ∧ Aside0 (Kd.R Kd.string 9 w' w.heap.size (fun k_ => some k_ ≠ (v161 : Value).ownBlock ∧ some k_ ≠ (v164 : Value).ownBlock ∧ some k_ ≠ (v167 : Value).ownBlock) v158 t157) ∧ Aside0 (Kd.R Kd.string 9 w' w.heap.size (fun k_ => some k_ ≠ (v158 : Value).ownBlock ∧ some k_ ≠ (v164 : Value).ownBlock ∧ some k_ ≠ (v167 : Value).ownBlock) v161 t160) ∧ Aside0 (Kd.R Kd.string 9 w' w.heap.size (fun k_ => some k_ ≠ (v158 : Value).ownBlock ∧ some k_ ≠ (v161 : Value).ownBlock ∧ some k_ ≠ (v167 : Value).ownBlock) v164 t163) ∧ Aside0 (Kd.R Kd.string 9 w' w.heap.size (fun k_ => some k_ ≠ (v158 : Value).ownBlock ∧ some k_ ≠ (v161 : Value).ownBlock ∧ some k_ ≠ (v164 : Value).ownBlock) v167 t166) ∧ Aside0 (Below w.heap.size w w'))
                    case atStart => exact ⟨(0), (by first | rfl | (simp; done) | (simp [*]; done)), H', ⟨Nat.le_refl _⟩, ⟨by (with_reducible repeat (first | apply Kd.R_alloc | apply Kd.R_drewN | apply Kd.R_drew)); exact HO_7.out⟩, ⟨by (with_reducible repeat (first | apply Kd.R_alloc | apply Kd.R_drewN | apply Kd.R_drew)); exact HO_8.out⟩, ⟨by (with_reducible repeat (first | apply Kd.R_alloc | apply Kd.R_drewN | apply Kd.R_drew)); exact HO_9.out⟩, ⟨by (with_reducible repeat (first | apply Kd.R_alloc | apply Kd.R_drewN | apply Kd.R_drew)); exact HO_10.out⟩, ⟨by repeat (first | (with_reducible first | exact HB.out | apply below_alloc | apply pw_below_drewN | apply below_drew1) | exact HB.out)⟩⟩
                    case round =>
                      clear H'
                      try clear c1
                      try clear c2
                      try clear p2
                      try clear c3
                      try clear p6
                      try clear c7
                      try clear c7b0
                      try clear c7b1
                      try clear c7b2
                      try clear c8
                      try clear c8b0
                      try clear c8b1
                      try clear c8b2
                      try clear c10
                      try clear c10b0
                      try clear c10b1
                      try clear c10b2
                      try clear c11
                      try clear c11b0
                      try clear c11b1
                      try clear c11b2
                      try clear c12
                      try clear c12b0
                      try clear c12b1
                      try clear c12b2
                      try clear c13
                      try clear c13b0
                      try clear c13b1
                      try clear c13b2
                      try clear c22
                      try clear c22b0
                      try clear c22b1
                      try clear c30
                      try clear p2
                      try clear p6
                      obtain ⟨x11_2, rfl, HA, HK2, HO_7, HO_8, HO_9, HO_10, HB⟩ := hrel
                      cases gk with
                      | zero => exact absurd HA.out (by simp [mudlarklaw02_StrJoins.l0])
                      | succ k2 =>
                        have H := HA.out
                        clear HA
                        simp only [mudlarklaw02_StrJoins.l0] at H
                        by_cases c31 : x11_2 < (t163.length : Int)
                        · rw [if_pos c31] at H
                          have c31b0 : decide (x11_2 < (t163.length : Int)) = true := decide_eq_true c31
                          clear c31
                          by_cases c32 : x11_2 < (t157.length : Int)
                          · rw [if_pos c32] at H
                            have c32b0 : decide (x11_2 < (t157.length : Int)) = true := decide_eq_true c32
                            clear c32
                            by_cases c33 : 0 ≤ x11_2
                            · rw [if_pos c33] at H
                              have c33b0 : decide (0 ≤ x11_2) = true := decide_eq_true c33
                              clear c33
                              by_cases c34 : (rdOf ByteArray.empty t163 x11_2).toList = (rdOf ByteArray.empty t157 x11_2).toList
                              · rw [if_pos c34] at H
                                have c34b0 : ((rdOf ByteArray.empty t163 x11_2).toList == (rdOf ByteArray.empty t157 x11_2).toList) = true := beq_iff_eq.mpr c34
                                have c34b1 : ((rdOf ByteArray.empty t163 x11_2).toList != (rdOf ByteArray.empty t157 x11_2).toList) = false := bne_eq_false_iff_eq.mpr c34
                                clear c34
                                by_cases c35 : x11_2 ≥ (t157.length : Int)
                                · rw [if_pos c35] at H
                                  have c35b0 : decide ((t157.length : Int) ≤ x11_2) = true := decide_eq_true c35
                                  clear c35
                                  obtain ⟨ji36, hji36⟩ : ∃ j_ : Int, (wrap64 (x11_2 - (t157.length : Int))) = j_ := ⟨_, rfl⟩
                                  replace H : (if 0 ≤ (ji36) then (if (ji36) < (t160.length : Int) then (if (rdOf ByteArray.empty t163 x11_2).toList = (rdOf ByteArray.empty t160 (ji36)).toList then (if x11_2 < (t166.length : Int) then (if (rdOf ByteArray.empty t166 x11_2).toList = (rdOf ByteArray.empty t163 x11_2).toList then (mudlarklaw02_StrJoins.l0 k2 t157 t160 t163 t166 (wrap64 (x11_2 + 1))) else (some false)) else (none)) else (some false)) else (none)) else (none)) = some r := by first | (rw [hji36] at H; exact H) | (simp only [hji36] at H ⊢; exact H)
                                  have hji36w : (IntKind.i64.wrap (x11_2 - (t157.length : Int))) = ji36 := (i64_w _).trans hji36
                                  by_cases c37 : 0 ≤ (ji36)
                                  · rw [if_pos c37] at H
                                    have c37b0 : decide (0 ≤ (ji36)) = true := decide_eq_true c37
                                    clear c37
                                    by_cases c38 : (ji36) < (t160.length : Int)
                                    · rw [if_pos c38] at H
                                      have c38b0 : decide ((ji36) < (t160.length : Int)) = true := decide_eq_true c38
                                      clear c38
                                      by_cases c39 : (rdOf ByteArray.empty t163 x11_2).toList = (rdOf ByteArray.empty t160 (ji36)).toList
                                      · rw [if_pos c39] at H
                                        have c39b0 : ((rdOf ByteArray.empty t163 x11_2).toList == (rdOf ByteArray.empty t160 (ji36)).toList) = true := beq_iff_eq.mpr c39
                                        have c39b1 : ((rdOf ByteArray.empty t163 x11_2).toList != (rdOf ByteArray.empty t160 (ji36)).toList) = false := bne_eq_false_iff_eq.mpr c39
                                        clear c39
                                        by_cases c40 : x11_2 < (t166.length : Int)
                                        · rw [if_pos c40] at H
                                          have c40b0 : decide (x11_2 < (t166.length : Int)) = true := decide_eq_true c40
                                          clear c40
                                          by_cases c41 : (rdOf ByteArray.empty t166 x11_2).toList = (rdOf ByteArray.empty t163 x11_2).toList
                                          · rw [if_pos c41] at H
                                            have c41b0 : ((rdOf ByteArray.empty t166 x11_2).toList == (rdOf ByteArray.empty t163 x11_2).toList) = true := beq_iff_eq.mpr c41
                                            have c41b1 : ((rdOf ByteArray.empty t166 x11_2).toList != (rdOf ByteArray.empty t163 x11_2).toList) = false := bne_eq_false_iff_eq.mpr c41
                                            clear c41
                                            have H' := Aside0.mk H
                                            clear H
                                            obtain ⟨Ao42, co42, eo42⟩ := Kd.R_slice HO_9.out
                                            subst eo42
                                            obtain ⟨Ao43, co43, eo43⟩ := Kd.R_slice HO_7.out
                                            subst eo43
                                            have p169 : 0 ≤ (x11_2 : Int) := of_decide_eq_true (by first | (with_reducible assumption) | assumption)
                                            have q169 : x11_2 < (t163.length : Int) := of_decide_eq_true (by first | (with_reducible assumption) | assumption)
                                            obtain ⟨ad169, e169, hx169_0⟩ := Kd.at_string (Kd.R_reads' HO_9.out).2.2 x11_2 p169 q169
                                            cases e169
                                            replace p169 := eq_true p169
                                            replace q169 := eq_true q169
                                            have p170 : 0 ≤ (x11_2 : Int) := of_decide_eq_true (by first | (with_reducible assumption) | assumption)
                                            have q170 : x11_2 < (t157.length : Int) := of_decide_eq_true (by first | (with_reducible assumption) | assumption)
                                            obtain ⟨ad170, e170, hx170_0⟩ := Kd.at_string (Kd.R_reads' HO_7.out).2.2 x11_2 p170 q170
                                            cases e170
                                            replace p170 := eq_true p170
                                            replace q170 := eq_true q170
                                            have p171 : 0 ≤ (x11_2 : Int) := of_decide_eq_true (by first | (with_reducible assumption) | assumption)
                                            have q171 : x11_2 < (t163.length : Int) := of_decide_eq_true (by first | (with_reducible assumption) | assumption)
                                            obtain ⟨ad171, e171, hx171_0⟩ := Kd.at_string (Kd.R_reads' HO_9.out).2.2 x11_2 p171 q171
                                            obtain rfl : ad169 = ad171 := (by injection e171)
                                            replace p171 := eq_true p171
                                            replace q171 := eq_true q171
                                            obtain ⟨Ao44, co44, eo44⟩ := Kd.R_slice HO_8.out
                                            subst eo44
                                            have p172 : 0 ≤ ((ji36) : Int) := of_decide_eq_true (by first | (with_reducible assumption) | assumption)
                                            have q172 : (ji36) < (t160.length : Int) := of_decide_eq_true (by first | (with_reducible assumption) | assumption)
                                            obtain ⟨ad172, e172, hx172_0⟩ := Kd.at_string (Kd.R_reads' HO_8.out).2.2 (ji36) p172 q172
                                            cases e172
                                            replace p172 := eq_true p172
                                            replace q172 := eq_true q172
                                            obtain ⟨Ao45, co45, eo45⟩ := Kd.R_slice HO_10.out
                                            subst eo45
                                            have p173 : 0 ≤ (x11_2 : Int) := of_decide_eq_true (by first | (with_reducible assumption) | assumption)
                                            have q173 : x11_2 < (t166.length : Int) := of_decide_eq_true (by first | (with_reducible assumption) | assumption)
                                            obtain ⟨ad173, e173, hx173_0⟩ := Kd.at_string (Kd.R_reads' HO_10.out).2.2 x11_2 p173 q173
                                            cases e173
                                            replace p173 := eq_true p173
                                            replace q173 := eq_true q173
                                            have p174 : 0 ≤ (x11_2 : Int) := of_decide_eq_true (by first | (with_reducible assumption) | assumption)
                                            have q174 : x11_2 < (t163.length : Int) := of_decide_eq_true (by first | (with_reducible assumption) | assumption)
                                            obtain ⟨ad174, e174, hx174_0⟩ := Kd.at_string (Kd.R_reads' HO_9.out).2.2 x11_2 p174 q174
                                            obtain rfl : ad169 = ad174 := (by injection e174)
                                            replace p174 := eq_true p174
                                            replace q174 := eq_true q174
                                            go_wp2
                                            repeat (go_quiet (fail); try go_wp2)
                                            go_roundg k2
                                            case measure => have := HJ14.out; have := HK2.out; omega
                                            case rel => exact ⟨(wrap64 (x11_2 + 1)), (by first | rfl | (simp; done) | (simp [*]; done)), H', ⟨by have := HJ14.out; have := HK2.out; omega⟩, ⟨by (with_reducible repeat (first | apply Kd.R_alloc | apply Kd.R_drewN | apply Kd.R_drew)); exact HO_7.out⟩, ⟨by (with_reducible repeat (first | apply Kd.R_alloc | apply Kd.R_drewN | apply Kd.R_drew)); exact HO_8.out⟩, ⟨by (with_reducible repeat (first | apply Kd.R_alloc | apply Kd.R_drewN | apply Kd.R_drew)); exact HO_9.out⟩, ⟨by (with_reducible repeat (first | apply Kd.R_alloc | apply Kd.R_drewN | apply Kd.R_drew)); exact HO_10.out⟩, ⟨by repeat (first | (with_reducible first | exact HB.out | apply below_alloc | apply pw_below_drewN | apply below_drew1) | exact HB.out)⟩⟩
                                          · rw [if_neg c41] at H
                                            have c41b0 : ((rdOf ByteArray.empty t166 x11_2).toList == (rdOf ByteArray.empty t163 x11_2).toList) = false := beq_eq_false_iff_ne.mpr c41
                                            have c41b1 : ((rdOf ByteArray.empty t166 x11_2).toList != (rdOf ByteArray.empty t163 x11_2).toList) = true := bne_iff_ne.mpr c41
                                            obtain rfl := Option.some.inj H
                                            obtain ⟨Ao46, co46, eo46⟩ := Kd.R_slice HO_9.out
                                            subst eo46
                                            obtain ⟨Ao47, co47, eo47⟩ := Kd.R_slice HO_7.out
                                            subst eo47
                                            have p169 : 0 ≤ (x11_2 : Int) := of_decide_eq_true (by first | (with_reducible assumption) | assumption)
                                            have q169 : x11_2 < (t163.length : Int) := of_decide_eq_true (by first | (with_reducible assumption) | assumption)
                                            obtain ⟨ad169, e169, hx169_0⟩ := Kd.at_string (Kd.R_reads' HO_9.out).2.2 x11_2 p169 q169
                                            cases e169
                                            replace p169 := eq_true p169
                                            replace q169 := eq_true q169
                                            have p170 : 0 ≤ (x11_2 : Int) := of_decide_eq_true (by first | (with_reducible assumption) | assumption)
                                            have q170 : x11_2 < (t157.length : Int) := of_decide_eq_true (by first | (with_reducible assumption) | assumption)
                                            obtain ⟨ad170, e170, hx170_0⟩ := Kd.at_string (Kd.R_reads' HO_7.out).2.2 x11_2 p170 q170
                                            cases e170
                                            replace p170 := eq_true p170
                                            replace q170 := eq_true q170
                                            have p171 : 0 ≤ (x11_2 : Int) := of_decide_eq_true (by first | (with_reducible assumption) | assumption)
                                            have q171 : x11_2 < (t163.length : Int) := of_decide_eq_true (by first | (with_reducible assumption) | assumption)
                                            obtain ⟨ad171, e171, hx171_0⟩ := Kd.at_string (Kd.R_reads' HO_9.out).2.2 x11_2 p171 q171
                                            obtain rfl : ad169 = ad171 := (by injection e171)
                                            replace p171 := eq_true p171
                                            replace q171 := eq_true q171
                                            obtain ⟨Ao48, co48, eo48⟩ := Kd.R_slice HO_8.out
                                            subst eo48
                                            have p172 : 0 ≤ ((ji36) : Int) := of_decide_eq_true (by first | (with_reducible assumption) | assumption)
                                            have q172 : (ji36) < (t160.length : Int) := of_decide_eq_true (by first | (with_reducible assumption) | assumption)
                                            obtain ⟨ad172, e172, hx172_0⟩ := Kd.at_string (Kd.R_reads' HO_8.out).2.2 (ji36) p172 q172
                                            cases e172
                                            replace p172 := eq_true p172
                                            replace q172 := eq_true q172
                                            obtain ⟨Ao49, co49, eo49⟩ := Kd.R_slice HO_10.out
                                            subst eo49
                                            have p173 : 0 ≤ (x11_2 : Int) := of_decide_eq_true (by first | (with_reducible assumption) | assumption)
                                            have q173 : x11_2 < (t166.length : Int) := of_decide_eq_true (by first | (with_reducible assumption) | assumption)
                                            obtain ⟨ad173, e173, hx173_0⟩ := Kd.at_string (Kd.R_reads' HO_10.out).2.2 x11_2 p173 q173
                                            cases e173
                                            replace p173 := eq_true p173
                                            replace q173 := eq_true q173
                                            have p174 : 0 ≤ (x11_2 : Int) := of_decide_eq_true (by first | (with_reducible assumption) | assumption)
                                            have q174 : x11_2 < (t163.length : Int) := of_decide_eq_true (by first | (with_reducible assumption) | assumption)
                                            obtain ⟨ad174, e174, hx174_0⟩ := Kd.at_string (Kd.R_reads' HO_9.out).2.2 x11_2 p174 q174
                                            obtain rfl : ad169 = ad174 := (by injection e174)
                                            replace p174 := eq_true p174
                                            replace q174 := eq_true q174
                                            go_wp2
                                            repeat (go_quiet (fail); try go_wp2)
                                            go_ret
                                            exact ⟨by first | rfl | (simp [errW_none, errW_some] <;> rfl) | (simp only [← hji36]; first | rfl | (simp [errW_none, errW_some] <;> rfl)) | (simp [*, errW_none, errW_some] <;> rfl), by repeat (first | (with_reducible first | exact HB.out | apply below_alloc | apply pw_below_drewN | apply below_drew1) | exact HB.out)⟩
                                        · rw [if_neg c40] at H
                                          exact absurd H (by simp)
                                      · rw [if_neg c39] at H
                                        have c39b0 : ((rdOf ByteArray.empty t163 x11_2).toList == (rdOf ByteArray.empty t160 (ji36)).toList) = false := beq_eq_false_iff_ne.mpr c39
                                        have c39b1 : ((rdOf ByteArray.empty t163 x11_2).toList != (rdOf ByteArray.empty t160 (ji36)).toList) = true := bne_iff_ne.mpr c39
                                        obtain rfl := Option.some.inj H
                                        obtain ⟨Ao50, co50, eo50⟩ := Kd.R_slice HO_9.out
                                        subst eo50
                                        obtain ⟨Ao51, co51, eo51⟩ := Kd.R_slice HO_7.out
                                        subst eo51
                                        have p169 : 0 ≤ (x11_2 : Int) := of_decide_eq_true (by first | (with_reducible assumption) | assumption)
                                        have q169 : x11_2 < (t163.length : Int) := of_decide_eq_true (by first | (with_reducible assumption) | assumption)
                                        obtain ⟨ad169, e169, hx169_0⟩ := Kd.at_string (Kd.R_reads' HO_9.out).2.2 x11_2 p169 q169
                                        cases e169
                                        replace p169 := eq_true p169
                                        replace q169 := eq_true q169
                                        have p170 : 0 ≤ (x11_2 : Int) := of_decide_eq_true (by first | (with_reducible assumption) | assumption)
                                        have q170 : x11_2 < (t157.length : Int) := of_decide_eq_true (by first | (with_reducible assumption) | assumption)
                                        obtain ⟨ad170, e170, hx170_0⟩ := Kd.at_string (Kd.R_reads' HO_7.out).2.2 x11_2 p170 q170
                                        cases e170
                                        replace p170 := eq_true p170
                                        replace q170 := eq_true q170
                                        have p171 : 0 ≤ (x11_2 : Int) := of_decide_eq_true (by first | (with_reducible assumption) | assumption)
                                        have q171 : x11_2 < (t163.length : Int) := of_decide_eq_true (by first | (with_reducible assumption) | assumption)
                                        obtain ⟨ad171, e171, hx171_0⟩ := Kd.at_string (Kd.R_reads' HO_9.out).2.2 x11_2 p171 q171
                                        obtain rfl : ad169 = ad171 := (by injection e171)
                                        replace p171 := eq_true p171
                                        replace q171 := eq_true q171
                                        obtain ⟨Ao52, co52, eo52⟩ := Kd.R_slice HO_8.out
                                        subst eo52
                                        have p172 : 0 ≤ ((ji36) : Int) := of_decide_eq_true (by first | (with_reducible assumption) | assumption)
                                        have q172 : (ji36) < (t160.length : Int) := of_decide_eq_true (by first | (with_reducible assumption) | assumption)
                                        obtain ⟨ad172, e172, hx172_0⟩ := Kd.at_string (Kd.R_reads' HO_8.out).2.2 (ji36) p172 q172
                                        cases e172
                                        replace p172 := eq_true p172
                                        replace q172 := eq_true q172
                                        go_wp2
                                        repeat (go_quiet (fail); try go_wp2)
                                        go_ret
                                        exact ⟨by first | rfl | (simp [errW_none, errW_some] <;> rfl) | (simp only [← hji36]; first | rfl | (simp [errW_none, errW_some] <;> rfl)) | (simp [*, errW_none, errW_some] <;> rfl), by repeat (first | (with_reducible first | exact HB.out | apply below_alloc | apply pw_below_drewN | apply below_drew1) | exact HB.out)⟩
                                    · rw [if_neg c38] at H
                                      exact absurd H (by simp)
                                  · rw [if_neg c37] at H
                                    exact absurd H (by simp)
                                · rw [if_neg c35] at H
                                  have c35b0 : decide ((t157.length : Int) ≤ x11_2) = false := decide_eq_false c35
                                  clear c35
                                  by_cases c53 : x11_2 < (t166.length : Int)
                                  · rw [if_pos c53] at H
                                    have c53b0 : decide (x11_2 < (t166.length : Int)) = true := decide_eq_true c53
                                    clear c53
                                    by_cases c54 : (rdOf ByteArray.empty t166 x11_2).toList = (rdOf ByteArray.empty t163 x11_2).toList
                                    · rw [if_pos c54] at H
                                      have c54b0 : ((rdOf ByteArray.empty t166 x11_2).toList == (rdOf ByteArray.empty t163 x11_2).toList) = true := beq_iff_eq.mpr c54
                                      have c54b1 : ((rdOf ByteArray.empty t166 x11_2).toList != (rdOf ByteArray.empty t163 x11_2).toList) = false := bne_eq_false_iff_eq.mpr c54
                                      clear c54
                                      have H' := Aside0.mk H
                                      clear H
                                      obtain ⟨Ao55, co55, eo55⟩ := Kd.R_slice HO_9.out
                                      subst eo55
                                      obtain ⟨Ao56, co56, eo56⟩ := Kd.R_slice HO_7.out
                                      subst eo56
                                      have p169 : 0 ≤ (x11_2 : Int) := of_decide_eq_true (by first | (with_reducible assumption) | assumption)
                                      have q169 : x11_2 < (t163.length : Int) := of_decide_eq_true (by first | (with_reducible assumption) | assumption)
                                      obtain ⟨ad169, e169, hx169_0⟩ := Kd.at_string (Kd.R_reads' HO_9.out).2.2 x11_2 p169 q169
                                      cases e169
                                      replace p169 := eq_true p169
                                      replace q169 := eq_true q169
                                      have p170 : 0 ≤ (x11_2 : Int) := of_decide_eq_true (by first | (with_reducible assumption) | assumption)
                                      have q170 : x11_2 < (t157.length : Int) := of_decide_eq_true (by first | (with_reducible assumption) | assumption)
                                      obtain ⟨ad170, e170, hx170_0⟩ := Kd.at_string (Kd.R_reads' HO_7.out).2.2 x11_2 p170 q170
                                      cases e170
                                      replace p170 := eq_true p170
                                      replace q170 := eq_true q170
                                      obtain ⟨Ao57, co57, eo57⟩ := Kd.R_slice HO_10.out
                                      subst eo57
                                      have p175 : 0 ≤ (x11_2 : Int) := of_decide_eq_true (by first | (with_reducible assumption) | assumption)
                                      have q175 : x11_2 < (t166.length : Int) := of_decide_eq_true (by first | (with_reducible assumption) | assumption)
                                      obtain ⟨ad175, e175, hx175_0⟩ := Kd.at_string (Kd.R_reads' HO_10.out).2.2 x11_2 p175 q175
                                      cases e175
                                      replace p175 := eq_true p175
                                      replace q175 := eq_true q175
                                      have p176 : 0 ≤ (x11_2 : Int) := of_decide_eq_true (by first | (with_reducible assumption) | assumption)
                                      have q176 : x11_2 < (t163.length : Int) := of_decide_eq_true (by first | (with_reducible assumption) | assumption)
                                      obtain ⟨ad176, e176, hx176_0⟩ := Kd.at_string (Kd.R_reads' HO_9.out).2.2 x11_2 p176 q176
                                      obtain rfl : ad169 = ad176 := (by injection e176)
                                      replace p176 := eq_true p176
                                      replace q176 := eq_true q176
                                      go_wp2
                                      repeat (go_quiet (fail); try go_wp2)
                                      go_roundg k2
                                      case measure => have := HJ14.out; have := HK2.out; omega
                                      case rel => exact ⟨(wrap64 (x11_2 + 1)), (by first | rfl | (simp; done) | (simp [*]; done)), H', ⟨by have := HJ14.out; have := HK2.out; omega⟩, ⟨by (with_reducible repeat (first | apply Kd.R_alloc | apply Kd.R_drewN | apply Kd.R_drew)); exact HO_7.out⟩, ⟨by (with_reducible repeat (first | apply Kd.R_alloc | apply Kd.R_drewN | apply Kd.R_drew)); exact HO_8.out⟩, ⟨by (with_reducible repeat (first | apply Kd.R_alloc | apply Kd.R_drewN | apply Kd.R_drew)); exact HO_9.out⟩, ⟨by (with_reducible repeat (first | apply Kd.R_alloc | apply Kd.R_drewN | apply Kd.R_drew)); exact HO_10.out⟩, ⟨by repeat (first | (with_reducible first | exact HB.out | apply below_alloc | apply pw_below_drewN | apply below_drew1) | exact HB.out)⟩⟩
                                    · rw [if_neg c54] at H
                                      have c54b0 : ((rdOf ByteArray.empty t166 x11_2).toList == (rdOf ByteArray.empty t163 x11_2).toList) = false := beq_eq_false_iff_ne.mpr c54
                                      have c54b1 : ((rdOf ByteArray.empty t166 x11_2).toList != (rdOf ByteArray.empty t163 x11_2).toList) = true := bne_iff_ne.mpr c54
                                      obtain rfl := Option.some.inj H
                                      obtain ⟨Ao58, co58, eo58⟩ := Kd.R_slice HO_9.out
                                      subst eo58
                                      obtain ⟨Ao59, co59, eo59⟩ := Kd.R_slice HO_7.out
                                      subst eo59
                                      have p169 : 0 ≤ (x11_2 : Int) := of_decide_eq_true (by first | (with_reducible assumption) | assumption)
                                      have q169 : x11_2 < (t163.length : Int) := of_decide_eq_true (by first | (with_reducible assumption) | assumption)
                                      obtain ⟨ad169, e169, hx169_0⟩ := Kd.at_string (Kd.R_reads' HO_9.out).2.2 x11_2 p169 q169
                                      cases e169
                                      replace p169 := eq_true p169
                                      replace q169 := eq_true q169
                                      have p170 : 0 ≤ (x11_2 : Int) := of_decide_eq_true (by first | (with_reducible assumption) | assumption)
                                      have q170 : x11_2 < (t157.length : Int) := of_decide_eq_true (by first | (with_reducible assumption) | assumption)
                                      obtain ⟨ad170, e170, hx170_0⟩ := Kd.at_string (Kd.R_reads' HO_7.out).2.2 x11_2 p170 q170
                                      cases e170
                                      replace p170 := eq_true p170
                                      replace q170 := eq_true q170
                                      obtain ⟨Ao60, co60, eo60⟩ := Kd.R_slice HO_10.out
                                      subst eo60
                                      have p175 : 0 ≤ (x11_2 : Int) := of_decide_eq_true (by first | (with_reducible assumption) | assumption)
                                      have q175 : x11_2 < (t166.length : Int) := of_decide_eq_true (by first | (with_reducible assumption) | assumption)
                                      obtain ⟨ad175, e175, hx175_0⟩ := Kd.at_string (Kd.R_reads' HO_10.out).2.2 x11_2 p175 q175
                                      cases e175
                                      replace p175 := eq_true p175
                                      replace q175 := eq_true q175
                                      have p176 : 0 ≤ (x11_2 : Int) := of_decide_eq_true (by first | (with_reducible assumption) | assumption)
                                      have q176 : x11_2 < (t163.length : Int) := of_decide_eq_true (by first | (with_reducible assumption) | assumption)
                                      obtain ⟨ad176, e176, hx176_0⟩ := Kd.at_string (Kd.R_reads' HO_9.out).2.2 x11_2 p176 q176
                                      obtain rfl : ad169 = ad176 := (by injection e176)
                                      replace p176 := eq_true p176
                                      replace q176 := eq_true q176
                                      go_wp2
                                      repeat (go_quiet (fail); try go_wp2)
                                      go_ret
                                      exact ⟨by first | rfl | (simp [errW_none, errW_some] <;> rfl) | (simp [*, errW_none, errW_some] <;> rfl), by repeat (first | (with_reducible first | exact HB.out | apply below_alloc | apply pw_below_drewN | apply below_drew1) | exact HB.out)⟩
                                  · rw [if_neg c53] at H
                                    exact absurd H (by simp)
                              · rw [if_neg c34] at H
                                have c34b0 : ((rdOf ByteArray.empty t163 x11_2).toList == (rdOf ByteArray.empty t157 x11_2).toList) = false := beq_eq_false_iff_ne.mpr c34
                                have c34b1 : ((rdOf ByteArray.empty t163 x11_2).toList != (rdOf ByteArray.empty t157 x11_2).toList) = true := bne_iff_ne.mpr c34
                                obtain rfl := Option.some.inj H
                                obtain ⟨Ao61, co61, eo61⟩ := Kd.R_slice HO_9.out
                                subst eo61
                                obtain ⟨Ao62, co62, eo62⟩ := Kd.R_slice HO_7.out
                                subst eo62
                                have p169 : 0 ≤ (x11_2 : Int) := of_decide_eq_true (by first | (with_reducible assumption) | assumption)
                                have q169 : x11_2 < (t163.length : Int) := of_decide_eq_true (by first | (with_reducible assumption) | assumption)
                                obtain ⟨ad169, e169, hx169_0⟩ := Kd.at_string (Kd.R_reads' HO_9.out).2.2 x11_2 p169 q169
                                cases e169
                                replace p169 := eq_true p169
                                replace q169 := eq_true q169
                                have p170 : 0 ≤ (x11_2 : Int) := of_decide_eq_true (by first | (with_reducible assumption) | assumption)
                                have q170 : x11_2 < (t157.length : Int) := of_decide_eq_true (by first | (with_reducible assumption) | assumption)
                                obtain ⟨ad170, e170, hx170_0⟩ := Kd.at_string (Kd.R_reads' HO_7.out).2.2 x11_2 p170 q170
                                cases e170
                                replace p170 := eq_true p170
                                replace q170 := eq_true q170
                                go_wp2
                                repeat (go_quiet (fail); try go_wp2)
                                go_ret
                                exact ⟨by first | rfl | (simp [errW_none, errW_some] <;> rfl) | (simp [*, errW_none, errW_some] <;> rfl), by repeat (first | (with_reducible first | exact HB.out | apply below_alloc | apply pw_below_drewN | apply below_drew1) | exact HB.out)⟩
                            · rw [if_neg c33] at H
                              exact absurd H (by simp)
                          · rw [if_neg c32] at H
                            have c32b0 : decide (x11_2 < (t157.length : Int)) = false := decide_eq_false c32
                            clear c32
                            by_cases c63 : x11_2 ≥ (t157.length : Int)
                            · rw [if_pos c63] at H
                              have c63b0 : decide ((t157.length : Int) ≤ x11_2) = true := decide_eq_true c63
                              clear c63
                              by_cases c64 : 0 ≤ x11_2
                              · rw [if_pos c64] at H
                                have c64b0 : decide (0 ≤ x11_2) = true := decide_eq_true c64
                                clear c64
                                obtain ⟨ji65, hji65⟩ : ∃ j_ : Int, (wrap64 (x11_2 - (t157.length : Int))) = j_ := ⟨_, rfl⟩
                                replace H : (if 0 ≤ (ji65) then (if (ji65) < (t160.length : Int) then (if (rdOf ByteArray.empty t163 x11_2).toList = (rdOf ByteArray.empty t160 (ji65)).toList then (if x11_2 < (t166.length : Int) then (if (rdOf ByteArray.empty t166 x11_2).toList = (rdOf ByteArray.empty t163 x11_2).toList then (mudlarklaw02_StrJoins.l0 k2 t157 t160 t163 t166 (wrap64 (x11_2 + 1))) else (some false)) else (none)) else (some false)) else (none)) else (none)) = some r := by first | (rw [hji65] at H; exact H) | (simp only [hji65] at H ⊢; exact H)
                                have hji65w : (IntKind.i64.wrap (x11_2 - (t157.length : Int))) = ji65 := (i64_w _).trans hji65
                                by_cases c66 : 0 ≤ (ji65)
                                · rw [if_pos c66] at H
                                  have c66b0 : decide (0 ≤ (ji65)) = true := decide_eq_true c66
                                  clear c66
                                  by_cases c67 : (ji65) < (t160.length : Int)
                                  · rw [if_pos c67] at H
                                    have c67b0 : decide ((ji65) < (t160.length : Int)) = true := decide_eq_true c67
                                    clear c67
                                    by_cases c68 : (rdOf ByteArray.empty t163 x11_2).toList = (rdOf ByteArray.empty t160 (ji65)).toList
                                    · rw [if_pos c68] at H
                                      have c68b0 : ((rdOf ByteArray.empty t163 x11_2).toList == (rdOf ByteArray.empty t160 (ji65)).toList) = true := beq_iff_eq.mpr c68
                                      have c68b1 : ((rdOf ByteArray.empty t163 x11_2).toList != (rdOf ByteArray.empty t160 (ji65)).toList) = false := bne_eq_false_iff_eq.mpr c68
                                      clear c68
                                      by_cases c69 : x11_2 < (t166.length : Int)
                                      · rw [if_pos c69] at H
                                        have c69b0 : decide (x11_2 < (t166.length : Int)) = true := decide_eq_true c69
                                        clear c69
                                        by_cases c70 : (rdOf ByteArray.empty t166 x11_2).toList = (rdOf ByteArray.empty t163 x11_2).toList
                                        · rw [if_pos c70] at H
                                          have c70b0 : ((rdOf ByteArray.empty t166 x11_2).toList == (rdOf ByteArray.empty t163 x11_2).toList) = true := beq_iff_eq.mpr c70
                                          have c70b1 : ((rdOf ByteArray.empty t166 x11_2).toList != (rdOf ByteArray.empty t163 x11_2).toList) = false := bne_eq_false_iff_eq.mpr c70
                                          clear c70
                                          have H' := Aside0.mk H
                                          clear H
                                          obtain ⟨Ao71, co71, eo71⟩ := Kd.R_slice HO_9.out
                                          subst eo71
                                          obtain ⟨Ao72, co72, eo72⟩ := Kd.R_slice HO_7.out
                                          subst eo72
                                          have p177 : 0 ≤ (x11_2 : Int) := of_decide_eq_true (by first | (with_reducible assumption) | assumption)
                                          have q177 : x11_2 < (t163.length : Int) := of_decide_eq_true (by first | (with_reducible assumption) | assumption)
                                          obtain ⟨ad177, e177, hx177_0⟩ := Kd.at_string (Kd.R_reads' HO_9.out).2.2 x11_2 p177 q177
                                          cases e177
                                          replace p177 := eq_true p177
                                          replace q177 := eq_true q177
                                          obtain ⟨Ao73, co73, eo73⟩ := Kd.R_slice HO_8.out
                                          subst eo73
                                          have p178 : 0 ≤ ((ji65) : Int) := of_decide_eq_true (by first | (with_reducible assumption) | assumption)
                                          have q178 : (ji65) < (t160.length : Int) := of_decide_eq_true (by first | (with_reducible assumption) | assumption)
                                          obtain ⟨ad178, e178, hx178_0⟩ := Kd.at_string (Kd.R_reads' HO_8.out).2.2 (ji65) p178 q178
                                          cases e178
                                          replace p178 := eq_true p178
                                          replace q178 := eq_true q178
                                          obtain ⟨Ao74, co74, eo74⟩ := Kd.R_slice HO_10.out
                                          subst eo74
                                          have p179 : 0 ≤ (x11_2 : Int) := of_decide_eq_true (by first | (with_reducible assumption) | assumption)
                                          have q179 : x11_2 < (t166.length : Int) := of_decide_eq_true (by first | (with_reducible assumption) | assumption)
                                          obtain ⟨ad179, e179, hx179_0⟩ := Kd.at_string (Kd.R_reads' HO_10.out).2.2 x11_2 p179 q179
                                          cases e179
                                          replace p179 := eq_true p179
                                          replace q179 := eq_true q179
                                          have p180 : 0 ≤ (x11_2 : Int) := of_decide_eq_true (by first | (with_reducible assumption) | assumption)
                                          have q180 : x11_2 < (t163.length : Int) := of_decide_eq_true (by first | (with_reducible assumption) | assumption)
                                          obtain ⟨ad180, e180, hx180_0⟩ := Kd.at_string (Kd.R_reads' HO_9.out).2.2 x11_2 p180 q180
                                          obtain rfl : ad177 = ad180 := (by injection e180)
                                          replace p180 := eq_true p180
                                          replace q180 := eq_true q180
                                          go_wp2
                                          repeat (go_quiet (fail); try go_wp2)
                                          go_roundg k2
                                          case measure => have := HJ14.out; have := HK2.out; omega
                                          case rel => exact ⟨(wrap64 (x11_2 + 1)), (by first | rfl | (simp; done) | (simp [*]; done)), H', ⟨by have := HJ14.out; have := HK2.out; omega⟩, ⟨by (with_reducible repeat (first | apply Kd.R_alloc | apply Kd.R_drewN | apply Kd.R_drew)); exact HO_7.out⟩, ⟨by (with_reducible repeat (first | apply Kd.R_alloc | apply Kd.R_drewN | apply Kd.R_drew)); exact HO_8.out⟩, ⟨by (with_reducible repeat (first | apply Kd.R_alloc | apply Kd.R_drewN | apply Kd.R_drew)); exact HO_9.out⟩, ⟨by (with_reducible repeat (first | apply Kd.R_alloc | apply Kd.R_drewN | apply Kd.R_drew)); exact HO_10.out⟩, ⟨by repeat (first | (with_reducible first | exact HB.out | apply below_alloc | apply pw_below_drewN | apply below_drew1) | exact HB.out)⟩⟩
                                        · rw [if_neg c70] at H
                                          have c70b0 : ((rdOf ByteArray.empty t166 x11_2).toList == (rdOf ByteArray.empty t163 x11_2).toList) = false := beq_eq_false_iff_ne.mpr c70
                                          have c70b1 : ((rdOf ByteArray.empty t166 x11_2).toList != (rdOf ByteArray.empty t163 x11_2).toList) = true := bne_iff_ne.mpr c70
                                          obtain rfl := Option.some.inj H
                                          obtain ⟨Ao75, co75, eo75⟩ := Kd.R_slice HO_9.out
                                          subst eo75
                                          obtain ⟨Ao76, co76, eo76⟩ := Kd.R_slice HO_7.out
                                          subst eo76
                                          have p177 : 0 ≤ (x11_2 : Int) := of_decide_eq_true (by first | (with_reducible assumption) | assumption)
                                          have q177 : x11_2 < (t163.length : Int) := of_decide_eq_true (by first | (with_reducible assumption) | assumption)
                                          obtain ⟨ad177, e177, hx177_0⟩ := Kd.at_string (Kd.R_reads' HO_9.out).2.2 x11_2 p177 q177
                                          cases e177
                                          replace p177 := eq_true p177
                                          replace q177 := eq_true q177
                                          obtain ⟨Ao77, co77, eo77⟩ := Kd.R_slice HO_8.out
                                          subst eo77
                                          have p178 : 0 ≤ ((ji65) : Int) := of_decide_eq_true (by first | (with_reducible assumption) | assumption)
                                          have q178 : (ji65) < (t160.length : Int) := of_decide_eq_true (by first | (with_reducible assumption) | assumption)
                                          obtain ⟨ad178, e178, hx178_0⟩ := Kd.at_string (Kd.R_reads' HO_8.out).2.2 (ji65) p178 q178
                                          cases e178
                                          replace p178 := eq_true p178
                                          replace q178 := eq_true q178
                                          obtain ⟨Ao78, co78, eo78⟩ := Kd.R_slice HO_10.out
                                          subst eo78
                                          have p179 : 0 ≤ (x11_2 : Int) := of_decide_eq_true (by first | (with_reducible assumption) | assumption)
                                          have q179 : x11_2 < (t166.length : Int) := of_decide_eq_true (by first | (with_reducible assumption) | assumption)
                                          obtain ⟨ad179, e179, hx179_0⟩ := Kd.at_string (Kd.R_reads' HO_10.out).2.2 x11_2 p179 q179
                                          cases e179
                                          replace p179 := eq_true p179
                                          replace q179 := eq_true q179
                                          have p180 : 0 ≤ (x11_2 : Int) := of_decide_eq_true (by first | (with_reducible assumption) | assumption)
                                          have q180 : x11_2 < (t163.length : Int) := of_decide_eq_true (by first | (with_reducible assumption) | assumption)
                                          obtain ⟨ad180, e180, hx180_0⟩ := Kd.at_string (Kd.R_reads' HO_9.out).2.2 x11_2 p180 q180
                                          obtain rfl : ad177 = ad180 := (by injection e180)
                                          replace p180 := eq_true p180
                                          replace q180 := eq_true q180
                                          go_wp2
                                          repeat (go_quiet (fail); try go_wp2)
                                          go_ret
                                          exact ⟨by first | rfl | (simp [errW_none, errW_some] <;> rfl) | (simp only [← hji65]; first | rfl | (simp [errW_none, errW_some] <;> rfl)) | (simp [*, errW_none, errW_some] <;> rfl), by repeat (first | (with_reducible first | exact HB.out | apply below_alloc | apply pw_below_drewN | apply below_drew1) | exact HB.out)⟩
                                      · rw [if_neg c69] at H
                                        exact absurd H (by simp)
                                    · rw [if_neg c68] at H
                                      have c68b0 : ((rdOf ByteArray.empty t163 x11_2).toList == (rdOf ByteArray.empty t160 (ji65)).toList) = false := beq_eq_false_iff_ne.mpr c68
                                      have c68b1 : ((rdOf ByteArray.empty t163 x11_2).toList != (rdOf ByteArray.empty t160 (ji65)).toList) = true := bne_iff_ne.mpr c68
                                      obtain rfl := Option.some.inj H
                                      obtain ⟨Ao79, co79, eo79⟩ := Kd.R_slice HO_9.out
                                      subst eo79
                                      obtain ⟨Ao80, co80, eo80⟩ := Kd.R_slice HO_7.out
                                      subst eo80
                                      have p177 : 0 ≤ (x11_2 : Int) := of_decide_eq_true (by first | (with_reducible assumption) | assumption)
                                      have q177 : x11_2 < (t163.length : Int) := of_decide_eq_true (by first | (with_reducible assumption) | assumption)
                                      obtain ⟨ad177, e177, hx177_0⟩ := Kd.at_string (Kd.R_reads' HO_9.out).2.2 x11_2 p177 q177
                                      cases e177
                                      replace p177 := eq_true p177
                                      replace q177 := eq_true q177
                                      obtain ⟨Ao81, co81, eo81⟩ := Kd.R_slice HO_8.out
                                      subst eo81
                                      have p178 : 0 ≤ ((ji65) : Int) := of_decide_eq_true (by first | (with_reducible assumption) | assumption)
                                      have q178 : (ji65) < (t160.length : Int) := of_decide_eq_true (by first | (with_reducible assumption) | assumption)
                                      obtain ⟨ad178, e178, hx178_0⟩ := Kd.at_string (Kd.R_reads' HO_8.out).2.2 (ji65) p178 q178
                                      cases e178
                                      replace p178 := eq_true p178
                                      replace q178 := eq_true q178
                                      go_wp2
                                      repeat (go_quiet (fail); try go_wp2)
                                      go_ret
                                      exact ⟨by first | rfl | (simp [errW_none, errW_some] <;> rfl) | (simp only [← hji65]; first | rfl | (simp [errW_none, errW_some] <;> rfl)) | (simp [*, errW_none, errW_some] <;> rfl), by repeat (first | (with_reducible first | exact HB.out | apply below_alloc | apply pw_below_drewN | apply below_drew1) | exact HB.out)⟩
                                  · rw [if_neg c67] at H
                                    exact absurd H (by simp)
                                · rw [if_neg c66] at H
                                  exact absurd H (by simp)
                              · rw [if_neg c64] at H
                                exact absurd H (by simp)
                            · rw [if_neg c63] at H
                              have c63b0 : decide ((t157.length : Int) ≤ x11_2) = false := decide_eq_false c63
                              clear c63
                              by_cases c82 : 0 ≤ x11_2
                              · rw [if_pos c82] at H
                                have c82b0 : decide (0 ≤ x11_2) = true := decide_eq_true c82
                                clear c82
                                by_cases c83 : x11_2 < (t166.length : Int)
                                · rw [if_pos c83] at H
                                  have c83b0 : decide (x11_2 < (t166.length : Int)) = true := decide_eq_true c83
                                  clear c83
                                  by_cases c84 : (rdOf ByteArray.empty t166 x11_2).toList = (rdOf ByteArray.empty t163 x11_2).toList
                                  · rw [if_pos c84] at H
                                    have c84b0 : ((rdOf ByteArray.empty t166 x11_2).toList == (rdOf ByteArray.empty t163 x11_2).toList) = true := beq_iff_eq.mpr c84
                                    have c84b1 : ((rdOf ByteArray.empty t166 x11_2).toList != (rdOf ByteArray.empty t163 x11_2).toList) = false := bne_eq_false_iff_eq.mpr c84
                                    clear c84
                                    have H' := Aside0.mk H
                                    clear H
                                    obtain ⟨Ao85, co85, eo85⟩ := Kd.R_slice HO_9.out
                                    subst eo85
                                    obtain ⟨Ao86, co86, eo86⟩ := Kd.R_slice HO_7.out
                                    subst eo86
                                    obtain ⟨Ao87, co87, eo87⟩ := Kd.R_slice HO_10.out
                                    subst eo87
                                    have p181 : 0 ≤ (x11_2 : Int) := of_decide_eq_true (by first | (with_reducible assumption) | assumption)
                                    have q181 : x11_2 < (t166.length : Int) := of_decide_eq_true (by first | (with_reducible assumption) | assumption)
                                    obtain ⟨ad181, e181, hx181_0⟩ := Kd.at_string (Kd.R_reads' HO_10.out).2.2 x11_2 p181 q181
                                    cases e181
                                    replace p181 := eq_true p181
                                    replace q181 := eq_true q181
                                    have p182 : 0 ≤ (x11_2 : Int) := of_decide_eq_true (by first | (with_reducible assumption) | assumption)
                                    have q182 : x11_2 < (t163.length : Int) := of_decide_eq_true (by first | (with_reducible assumption) | assumption)
                                    obtain ⟨ad182, e182, hx182_0⟩ := Kd.at_string (Kd.R_reads' HO_9.out).2.2 x11_2 p182 q182
                                    cases e182
                                    replace p182 := eq_true p182
                                    replace q182 := eq_true q182
                                    go_wp2
                                    repeat (go_quiet (fail); try go_wp2)
                                    go_roundg k2
                                    case measure => have := HJ14.out; have := HK2.out; omega
                                    case rel => exact ⟨(wrap64 (x11_2 + 1)), (by first | rfl | (simp; done) | (simp [*]; done)), H', ⟨by have := HJ14.out; have := HK2.out; omega⟩, ⟨by (with_reducible repeat (first | apply Kd.R_alloc | apply Kd.R_drewN | apply Kd.R_drew)); exact HO_7.out⟩, ⟨by (with_reducible repeat (first | apply Kd.R_alloc | apply Kd.R_drewN | apply Kd.R_drew)); exact HO_8.out⟩, ⟨by (with_reducible repeat (first | apply Kd.R_alloc | apply Kd.R_drewN | apply Kd.R_drew)); exact HO_9.out⟩, ⟨by (with_reducible repeat (first | apply Kd.R_alloc | apply Kd.R_drewN | apply Kd.R_drew)); exact HO_10.out⟩, ⟨by repeat (first | (with_reducible first | exact HB.out | apply below_alloc | apply pw_below_drewN | apply below_drew1) | exact HB.out)⟩⟩
                                  · rw [if_neg c84] at H
                                    have c84b0 : ((rdOf ByteArray.empty t166 x11_2).toList == (rdOf ByteArray.empty t163 x11_2).toList) = false := beq_eq_false_iff_ne.mpr c84
                                    have c84b1 : ((rdOf ByteArray.empty t166 x11_2).toList != (rdOf ByteArray.empty t163 x11_2).toList) = true := bne_iff_ne.mpr c84
                                    obtain rfl := Option.some.inj H
                                    obtain ⟨Ao88, co88, eo88⟩ := Kd.R_slice HO_9.out
                                    subst eo88
                                    obtain ⟨Ao89, co89, eo89⟩ := Kd.R_slice HO_7.out
                                    subst eo89
                                    obtain ⟨Ao90, co90, eo90⟩ := Kd.R_slice HO_10.out
                                    subst eo90
                                    have p181 : 0 ≤ (x11_2 : Int) := of_decide_eq_true (by first | (with_reducible assumption) | assumption)
                                    have q181 : x11_2 < (t166.length : Int) := of_decide_eq_true (by first | (with_reducible assumption) | assumption)
                                    obtain ⟨ad181, e181, hx181_0⟩ := Kd.at_string (Kd.R_reads' HO_10.out).2.2 x11_2 p181 q181
                                    cases e181
                                    replace p181 := eq_true p181
                                    replace q181 := eq_true q181
                                    have p182 : 0 ≤ (x11_2 : Int) := of_decide_eq_true (by first | (with_reducible assumption) | assumption)
                                    have q182 : x11_2 < (t163.length : Int) := of_decide_eq_true (by first | (with_reducible assumption) | assumption)
                                    obtain ⟨ad182, e182, hx182_0⟩ := Kd.at_string (Kd.R_reads' HO_9.out).2.2 x11_2 p182 q182
                                    cases e182
                                    replace p182 := eq_true p182
                                    replace q182 := eq_true q182
                                    go_wp2
                                    repeat (go_quiet (fail); try go_wp2)
                                    go_ret
                                    exact ⟨by first | rfl | (simp [errW_none, errW_some] <;> rfl) | (simp [*, errW_none, errW_some] <;> rfl), by repeat (first | (with_reducible first | exact HB.out | apply below_alloc | apply pw_below_drewN | apply below_drew1) | exact HB.out)⟩
                                · rw [if_neg c83] at H
                                  exact absurd H (by simp)
                              · rw [if_neg c82] at H
                                exact absurd H (by simp)
                        · rw [if_neg c31] at H
                          have c31b0 : decide (x11_2 < (t163.length : Int)) = false := decide_eq_false c31
                          clear c31
                          replace H := Option.bind_eq_some_iff.mp H
                          obtain ⟨t183, A910, H⟩ := H
                          replace H : (some t183) = some r := H
                          have A91 := Aside0.mk A910
                          clear A910
                          obtain rfl := Option.some.inj H
                          obtain ⟨Ao92, co92, eo92⟩ := Kd.R_slice HO_9.out
                          subst eo92
                          go_wp2_with (first | (go_at_call 12; (with_reducible refine (mudlarklaw02_known.calls  t183 _ A91.out (HT.out.below (by repeat (first | (with_reducible first | exact HB.out | apply below_alloc | apply pw_below_drewN | apply below_drew1) | exact HB.out)))).mono ?_); rintro e w93 ⟨rfl, hb⟩; have n0_ := Aside0.mk (Kd.R_below (by (with_reducible repeat (first | apply Kd.R_alloc | apply Kd.R_drewN | apply Kd.R_drew)); exact HO_7.out) hb); have n1_ := Aside0.mk (Kd.R_below (by (with_reducible repeat (first | apply Kd.R_alloc | apply Kd.R_drewN | apply Kd.R_drew)); exact HO_8.out) hb); have n2_ := Aside0.mk (Kd.R_below (by (with_reducible repeat (first | apply Kd.R_alloc | apply Kd.R_drewN | apply Kd.R_drew)); exact HO_9.out) hb); have n3_ := Aside0.mk (Kd.R_below (by (with_reducible repeat (first | apply Kd.R_alloc | apply Kd.R_drewN | apply Kd.R_drew)); exact HO_10.out) hb); have n4_ := Aside0.mk (below_step (by repeat (first | (with_reducible first | exact HB.out | apply below_alloc | apply pw_below_drewN | apply below_drew1) | exact HB.out)) hb); clear HO_7; clear HO_8; clear HO_9; clear HO_10; clear HB; have HO_7 := n0_; have HO_8 := n1_; have HO_9 := n2_; have HO_10 := n3_; have HB := n4_; clear n0_ n1_ n2_ n3_ n4_; (try clear hb); (try clear hb2); (try clear hk); (try clear hi)))
                          repeat (go_quiet (first | (go_at_call 12; (with_reducible refine (mudlarklaw02_known.calls  t183 _ A91.out (HT.out.below (by repeat (first | (with_reducible first | exact HB.out | apply below_alloc | apply pw_below_drewN | apply below_drew1) | exact HB.out)))).mono ?_); rintro e w93 ⟨rfl, hb⟩; have n0_ := Aside0.mk (Kd.R_below (by (with_reducible repeat (first | apply Kd.R_alloc | apply Kd.R_drewN | apply Kd.R_drew)); exact HO_7.out) hb); have n1_ := Aside0.mk (Kd.R_below (by (with_reducible repeat (first | apply Kd.R_alloc | apply Kd.R_drewN | apply Kd.R_drew)); exact HO_8.out) hb); have n2_ := Aside0.mk (Kd.R_below (by (with_reducible repeat (first | apply Kd.R_alloc | apply Kd.R_drewN | apply Kd.R_drew)); exact HO_9.out) hb); have n3_ := Aside0.mk (Kd.R_below (by (with_reducible repeat (first | apply Kd.R_alloc | apply Kd.R_drewN | apply Kd.R_drew)); exact HO_10.out) hb); have n4_ := Aside0.mk (below_step (by repeat (first | (with_reducible first | exact HB.out | apply below_alloc | apply pw_below_drewN | apply below_drew1) | exact HB.out)) hb); clear HO_7; clear HO_8; clear HO_9; clear HO_10; clear HB; have HO_7 := n0_; have HO_8 := n1_; have HO_9 := n2_; have HO_10 := n3_; have HB := n4_; clear n0_ n1_ n2_ n3_ n4_; (try clear hb); (try clear hb2); (try clear hk); (try clear hi))); try go_wp2_with (first | (go_at_call 12; (with_reducible refine (mudlarklaw02_known.calls  t183 _ A91.out (HT.out.below (by repeat (first | (with_reducible first | exact HB.out | apply below_alloc | apply pw_below_drewN | apply below_drew1) | exact HB.out)))).mono ?_); rintro e w93 ⟨rfl, hb⟩; have n0_ := Aside0.mk (Kd.R_below (by (with_reducible repeat (first | apply Kd.R_alloc | apply Kd.R_drewN | apply Kd.R_drew)); exact HO_7.out) hb); have n1_ := Aside0.mk (Kd.R_below (by (with_reducible repeat (first | apply Kd.R_alloc | apply Kd.R_drewN | apply Kd.R_drew)); exact HO_8.out) hb); have n2_ := Aside0.mk (Kd.R_below (by (with_reducible repeat (first | apply Kd.R_alloc | apply Kd.R_drewN | apply Kd.R_drew)); exact HO_9.out) hb); have n3_ := Aside0.mk (Kd.R_below (by (with_reducible repeat (first | apply Kd.R_alloc | apply Kd.R_drewN | apply Kd.R_drew)); exact HO_10.out) hb); have n4_ := Aside0.mk (below_step (by repeat (first | (with_reducible first | exact HB.out | apply below_alloc | apply pw_below_drewN | apply below_drew1) | exact HB.out)) hb); clear HO_7; clear HO_8; clear HO_9; clear HO_10; clear HB; have HO_7 := n0_; have HO_8 := n1_; have HO_9 := n2_; have HO_10 := n3_; have HB := n4_; clear n0_ n1_ n2_ n3_ n4_; (try clear hb); (try clear hb2); (try clear hk); (try clear hi))))
                          go_ret
                          exact ⟨by first | rfl | (simp [errW_none, errW_some] <;> rfl) | (simp [*, errW_none, errW_some] <;> rfl), by repeat (first | (with_reducible first | exact HB.out | apply below_alloc | apply pw_below_drewN | apply below_drew1) | exact HB.out)⟩
            · rw [if_neg c13] at H
              exact absurd H (by simp)
          · rw [if_neg c12] at H
            exact absurd H (by simp)
        · rw [if_neg c11] at H
          exact absurd H (by simp)
      · rw [if_neg c10] at H
        exact absurd H (by simp)
    · rw [if_neg c8] at H
      exact absurd H (by simp)
  · rw [if_neg c7] at H
    exact absurd H (by simp)

/-- THE ONE PURE STATEMENT of mudlarklaw02_StrJoins: yours. -/
def mudlarklaw02_StrJoins.Pure : Prop := ∀ (l0 : List Int) (l1 : List Int), l0.length ≤ maxLen → l0.length * 1 ≤ 140737488351232 → (∀ x ∈ l0, (Lit.int .u8 x).wf = true) → l1.length ≤ maxLen → l1.length * 1 ≤ 140737488351232 → (∀ x ∈ l1, (Lit.int .u8 x).wf = true) → ∃ k, mudlarklaw02_StrJoins.f k l0 l1 = some true
theorem mudlarklaw02_StrJoins.walk (P : mudlarklaw02_StrJoins.Pure) (a0 : Option Addr) (len0 cap0 : Nat) (z0 : List Int) (a1 : Option Addr) (len1 cap1 : Nat) (z1 : List Int) (w : World) (w0 : (a0 = none ∧ len0 = 0 ∧ cap0 = 0 ∧ z0 = []) ∨ ∃ x, a0 = some x ∧ len0 ≤ cap0 ∧ cap0 ≤ maxLen ∧ z0.length = cap0 ∧ (∀ i, i < z0.length → w.cell? (x.add i) = some (.int .u8 (z0.getD i 0))) ∧ ∀ n ∈ z0, (Lit.int .u8 n).wf = true) (y0 : len0 * 1 ≤ 140737488351232) (w1 : (a1 = none ∧ len1 = 0 ∧ cap1 = 0 ∧ z1 = []) ∨ ∃ x, a1 = some x ∧ len1 ≤ cap1 ∧ cap1 ≤ maxLen ∧ z1.length = cap1 ∧ (∀ i, i < z1.length → w.cell? (x.add i) = some (.int .u8 (z1.getD i 0))) ∧ ∀ n ∈ z1, (Lit.int .u8 n).wf = true) (y1 : len1 * 1 ≤ 140737488351232) (HT_ : Tabs w) :
    Calls Tryd.prog 3 #[.slice a0 len0 cap0, .slice a1 len1 cap1] w fun e w' => e = .returned (.bool true) ∧ Below w.heap.size w w' := by
  obtain ⟨l0, rfl, hr0, hm0, hw0, hc0⟩ := ReadsInt.ofRowC w0
  obtain ⟨l1, rfl, hr1, hm1, hw1, hc1⟩ := ReadsInt.ofRowC w1
  obtain ⟨k, h⟩ := P l0 l1 hm0 y0 hw0 hm1 y1 hw1
  refine (mudlarklaw02_StrJoins.calls k _ _ l0 _ _ l1 true w (Kd.C_of_reads (d := (0 : Int)) (h1 := fun _ => rfl) hr0) hc0 (Kd.C_of_reads (d := (0 : Int)) (h1 := fun _ => rfl) hr1) hc1 h HT_).mono ?_
  rintro e w' ⟨rfl, hd⟩
  exact ⟨rfl, hd⟩

end Go.Proofs.YtllcgkjomeegdaaDoor.P
