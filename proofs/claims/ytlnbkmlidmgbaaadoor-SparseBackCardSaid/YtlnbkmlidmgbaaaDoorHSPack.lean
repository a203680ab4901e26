/- sparse.Pack: a Lean function with its answers, and the proof that the Go code comes to them (made by the session's program over the kit's print). No conditions. -/
import Derived.Test.YtlnbkmlidmgbaaaDoorPx0
import Derived.Test.YtlnbkmlidmgbaaaDoorHTrim0
namespace Go.Proofs.YtlnbkmlidmgbaaaDoor.P
open Go.RowKit Go.Proofs.YtlnbkmlidmgbaaaDoorW.PrintWords Go.Proofs.YtlnbkmlidmgbaaaDoorW.PrintLast Go.Proofs.YtlnbkmlidmgbaaaDoorW.PrintMore
attribute [local go_sem] max2_int min2_int max_two min_two max_three min_three max_four min_four   -- for this text's walks alone
set_option linter.unusedVariables false
set_option linter.unusedSimpArgs false

/-! ### sparse_Pack: function 16 -/
def sparse_Pack.l0 : Nat → List Int → List (S40) → List Int → Bool → Int → Option ((List (S40)) × List Int)
  | 0, _, _, _, _, _ => none
  | k + 1, x0, x4, x5, x6, x7 => if x7 < (x0.length : Int) then (if 0 ≤ x7 then (if x7 ≤ (mn (wrap64 (x7 + 512)) (x0.length : Int)) then (if (mn (wrap64 (x7 + 512)) (x0.length : Int)) ≤ (x0.length : Int) then ((bytes_Trim.f ((x0.take ((mn (wrap64 (x7 + 512)) (x0.length : Int)) : Int).toNat).drop (x7 : Int).toNat) (⟨#[0]⟩ : ByteArray)).bind fun t108 => (if (t108.length : Int) = 0 then (sparse_Pack.l0 k x0 x4 x5 false (wrap64 (x7 + 512))) else (if x6 = true then (if 0 ≤ (wrap64 ((x4.length : Int) - 1)) then (if (wrap64 ((x4.length : Int) - 1)) < (x4.length : Int) then (if x5.length + ((x0.take ((mn (wrap64 (x7 + 512)) (x0.length : Int)) : Int).toNat).drop (x7 : Int).toNat).length < 140737488355328 then (sparse_Pack.l0 k x0 (x4.set ((wrap64 ((x4.length : Int) - 1)) : Int).toNat (⟨(rd_T40 x4 (wrap64 ((x4.length : Int) - 1))).f0, wrap64 (((rd_T40 x4 (wrap64 ((x4.length : Int) - 1))).f1) + (((x0.take ((mn (wrap64 (x7 + 512)) (x0.length : Int)) : Int).toNat).drop (x7 : Int).toNat).length : Int))⟩ : S40)) (x5 ++ ((x0.take ((mn (wrap64 (x7 + 512)) (x0.length : Int)) : Int).toNat).drop (x7 : Int).toNat)) x6 (wrap64 (x7 + 512))) else (none)) else (none)) else (none)) else (if x4.length < 8796093022208 then ((some (x4 ++ [(⟨x7, 0⟩ : S40)] : List (S40))).bind fun y116 => (if 0 ≤ (wrap64 ((y116.length : Int) - 1)) then (if (wrap64 ((y116.length : Int) - 1)) < (y116.length : Int) then (if x5.length + ((x0.take ((mn (wrap64 (x7 + 512)) (x0.length : Int)) : Int).toNat).drop (x7 : Int).toNat).length < 140737488355328 then (sparse_Pack.l0 k x0 (y116.set ((wrap64 ((y116.length : Int) - 1)) : Int).toNat (⟨(rd_T40 y116 (wrap64 ((y116.length : Int) - 1))).f0, wrap64 (((rd_T40 y116 (wrap64 ((y116.length : Int) - 1))).f1) + (((x0.take ((mn (wrap64 (x7 + 512)) (x0.length : Int)) : Int).toNat).drop (x7 : Int).toNat).length : Int))⟩ : S40)) (x5 ++ ((x0.take ((mn (wrap64 (x7 + 512)) (x0.length : Int)) : Int).toNat).drop (x7 : Int).toNat)) true (wrap64 (x7 + 512))) else (none)) else (none)) else (none))) else (none))))) else (none)) else (none)) else (none)) else (some (x4, x5))
def sparse_Pack.f (k : Nat) (l0 : List Int) : Option ((List (S40)) × List Int) := sparse_Pack.l0 k l0 ([] : List (S40)) ([] : List Int) false 0
theorem sparse_Pack.mono_l : ∀ k, (∀ y0 y1 y2 y3 y4, LeO (sparse_Pack.l0 k y0 y1 y2 y3 y4) (sparse_Pack.l0 (k + 1) y0 y1 y2 y3 y4))
  | 0 => fun _ _ _ _ _ r h => by simp [sparse_Pack.l0] at h
  | k + 1 => by
    have ih0 := sparse_Pack.mono_l k
    · intro y0 y1 y2 y3 y4
      unfold sparse_Pack.l0
      repeat' first
      | (with_reducible exact ih0 _ _ _ _ _)
      | (with_reducible exact LeO.refl _)
      | (with_reducible exact LeO.none _)
      | (with_reducible refine LeO.ite ?_ ?_)
      | (with_reducible refine LeO.bind ?_ (fun _ => ?_))
      | exact ih0 _ _ _ _ _
      | exact LeO.none _
      | refine LeO.ite ?_ ?_
      | refine LeO.bind ?_ (fun _ => ?_)
theorem sparse_Pack.mono : ∀ a0 k, LeO (sparse_Pack.f k a0) (sparse_Pack.f (k + 1) a0) := by
  intro a0 k
  have ih0 := sparse_Pack.mono_l k
  unfold sparse_Pack.f
  repeat' first
      | (with_reducible exact ih0 _ _ _ _ _)
      | (with_reducible exact LeO.refl _)
      | (with_reducible exact LeO.none _)
      | (with_reducible refine LeO.ite ?_ ?_)
      | (with_reducible refine LeO.bind ?_ (fun _ => ?_))
      | exact ih0 _ _ _ _ _
      | exact LeO.none _
      | refine LeO.ite ?_ ?_
      | refine LeO.bind ?_ (fun _ => ?_)
set_option maxHeartbeats 8000000 in
set_option maxRecDepth 100000 in
theorem sparse_Pack.calls (k : Nat) (A0 : Option Addr) (c0 : Nat) (l0 : List Int) (r1 : List (S40)) (r2 : List Int) (w : World) (hr0 : Kd.C (Kd.int .u8) w A0 l0.length l0) (hc0 : l0.length ≤ c0) (h : sparse_Pack.f k l0 = some (r1, r2)) :
    Calls Tryd.prog 16 #[.slice A0 l0.length c0] w fun e w' => ∃ v0_ v1_ : Value, e = .returned (.tuple #[v0_, v1_]) ∧ Kd.R k40 40 w' w.heap.size (fun _ => True) v0_ r1 ∧ Kd.R (Kd.int .u8) 5 w' w.heap.size (fun _ => True) v1_ r2 ∧ Below w.heap.size w w' := by
  have hu40 := Tryd.underlying40
  have HR0 := Aside0.mk hr0
  have HC0 := Aside0.mk hc0
  clear hr0 hc0
  have HB := Aside0.mk (Below.refl w.heap.size w)
  have H : (sparse_Pack.l0 k l0 ([] : List (S40)) ([] : List Int) false 0) = some (r1, r2) := h
  clear h
  have H' := Aside0.mk H
  clear H
  go_enter Tryd.func16, Tryd.ntmps16
  go_wp2
  go_step3
  go_wp2
  go_step3
  go_wp2
  go_loopg [4, 5, 6, 7] k (fun kq v4 v5 v6 v7 w' => ∃ (x4_1 : List (S40)) (x5_1 : List Int) (x6_1 : Bool) (x7_1 : Int), v6 = .bool x6_1 ∧ v7 = .int .i64 x7_1 ∧ Aside0 (sparse_Pack.l0 kq l0 x4_1 x5_1 x6_1 x7_1 = some (r1, r2)) ∧ Aside0 (kq ≤ k) ∧ Aside0 (Kd.R k40 40 w' w.heap.size (fun _ => True) v4 x4_1) ∧ Aside0 (Kd.R (Kd.int .u8) 5 w' w.heap.size (fun _ => True) v5 x5_1) ∧ Aside0 (Below w.heap.size w w'))
  case atStart => exact ⟨(([] : List (S40))), (([] : List Int)), (false), (0), (by first | rfl | (simp; done) | (simp [*]; done)), (by first | rfl | (simp; done) | (simp [*]; done)), H', ⟨Nat.le_refl _⟩, ⟨by first | exact Kd.R_nil _ _ _ _ _ | exact Kd.N_nil _ _ _ _ _ | exact Kd.V_nil _ _ _ _ _ | exact Kd.Q_nil _ _ _ _ _ | exact Kd.S_nil _ _ _ _ _⟩, ⟨by first | exact Kd.R_nil _ _ _ _ _ | exact Kd.N_nil _ _ _ _ _ | exact Kd.V_nil _ _ _ _ _ | exact Kd.Q_nil _ _ _ _ _ | exact Kd.S_nil _ _ _ _ _⟩, ⟨by repeat (first | (with_reducible first | exact HB.out | apply below_alloc | apply pw_below_drewN | apply below_drew1) | exact HB.out)⟩⟩
  case round =>
    clear H'
    try clear c1
    obtain ⟨x4_1, x5_1, x6_1, x7_1, rfl, rfl, HA, HK1, HO_4, HO_5, HB⟩ := hrel
    cases gk with
    | zero => exact absurd HA.out (by simp [sparse_Pack.l0])
    | succ k1 =>
      have H := HA.out
      clear HA
      simp only [sparse_Pack.l0] at H
      by_cases c2 : x7_1 < (l0.length : Int)
      · rw [if_pos c2] at H
        have c2b0 : decide (x7_1 < (l0.length : Int)) = true := decide_eq_true c2
        clear c2
        obtain ⟨ji3, hji3⟩ : ∃ j_ : Int, (mn (wrap64 (x7_1 + 512)) (l0.length : Int)) = j_ := ⟨_, rfl⟩
        replace H : (if 0 ≤ x7_1 then (if x7_1 ≤ (ji3) then (if (ji3) ≤ (l0.length : Int) then ((bytes_Trim.f ((l0.take ((ji3) : Int).toNat).drop (x7_1 : Int).toNat) (⟨#[0]⟩ : ByteArray)).bind fun t108 => (if (t108.length : Int) = 0 then (sparse_Pack.l0 k1 l0 x4_1 x5_1 false (wrap64 (x7_1 + 512))) else (if x6_1 = true then (if 0 ≤ (wrap64 ((x4_1.length : Int) - 1)) then (if (wrap64 ((x4_1.length : Int) - 1)) < (x4_1.length : Int) then (if x5_1.length + ((l0.take ((ji3) : Int).toNat).drop (x7_1 : Int).toNat).length < 140737488355328 then (sparse_Pack.l0 k1 l0 (x4_1.set ((wrap64 ((x4_1.length : Int) - 1)) : Int).toNat (⟨(rd_T40 x4_1 (wrap64 ((x4_1.length : Int) - 1))).f0, wrap64 (((rd_T40 x4_1 (wrap64 ((x4_1.length : Int) - 1))).f1) + (((l0.take ((ji3) : Int).toNat).drop (x7_1 : Int).toNat).length : Int))⟩ : S40)) (x5_1 ++ ((l0.take ((ji3) : Int).toNat).drop (x7_1 : Int).toNat)) x6_1 (wrap64 (x7_1 + 512))) else (none)) else (none)) else (none)) else (if x4_1.length < 8796093022208 then ((some (x4_1 ++ [(⟨x7_1, 0⟩ : S40)] : List (S40))).bind fun y116 => (if 0 ≤ (wrap64 ((y116.length : Int) - 1)) then (if (wrap64 ((y116.length : Int) - 1)) < (y116.length : Int) then (if x5_1.length + ((l0.take ((ji3) : Int).toNat).drop (x7_1 : Int).toNat).length < 140737488355328 then (sparse_Pack.l0 k1 l0 (y116.set ((wrap64 ((y116.length : Int) - 1)) : Int).toNat (⟨(rd_T40 y116 (wrap64 ((y116.length : Int) - 1))).f0, wrap64 (((rd_T40 y116 (wrap64 ((y116.length : Int) - 1))).f1) + (((l0.take ((ji3) : Int).toNat).drop (x7_1 : Int).toNat).length : Int))⟩ : S40)) (x5_1 ++ ((l0.take ((ji3) : Int).toNat).drop (x7_1 : Int).toNat)) true (wrap64 (x7_1 + 512))) else (none)) else (none)) else (none))) else (none))))) else (none)) else (none)) else (none)) = some (r1, r2) := by first | (rw [hji3] at H; exact H) | (simp only [hji3] at H ⊢; exact H)
        have hji3_ : (if (l0.length : Int) < (wrap64 (x7_1 + 512)) then (l0.length : Int) else (wrap64 (x7_1 + 512))) = ji3 := hji3
        by_cases c4 : 0 ≤ x7_1
        · rw [if_pos c4] at H
          have c4b0 := eq_true c4
          have c4b1 : decide (0 ≤ x7_1) = true := decide_eq_true c4
          clear c4
          by_cases c5 : x7_1 ≤ (ji3)
          · rw [if_pos c5] at H
            have c5b0 := eq_true c5
            have c5b1 : decide (x7_1 ≤ (ji3)) = true := decide_eq_true c5
            clear c5
            by_cases c6 : (ji3) ≤ (l0.length : Int)
            · rw [if_pos c6] at H
              have c6b0 := eq_true c6
              have c6b1 : decide ((ji3) ≤ (l0.length : Int)) = true := decide_eq_true c6
              clear c6
              replace H := Option.bind_eq_some_iff.mp H
              obtain ⟨t108, A70, H⟩ := H
              replace H : (if (t108.length : Int) = 0 then (sparse_Pack.l0 k1 l0 x4_1 x5_1 false (wrap64 (x7_1 + 512))) else (if x6_1 = true then (if 0 ≤ (wrap64 ((x4_1.length : Int) - 1)) then (if (wrap64 ((x4_1.length : Int) - 1)) < (x4_1.length : Int) then (if x5_1.length + ((l0.take ((ji3) : Int).toNat).drop (x7_1 : Int).toNat).length < 140737488355328 then (sparse_Pack.l0 k1 l0 (x4_1.set ((wrap64 ((x4_1.length : Int) - 1)) : Int).toNat (⟨(rd_T40 x4_1 (wrap64 ((x4_1.length : Int) - 1))).f0, wrap64 (((rd_T40 x4_1 (wrap64 ((x4_1.length : Int) - 1))).f1) + (((l0.take ((ji3) : Int).toNat).drop (x7_1 : Int).toNat).length : Int))⟩ : S40)) (x5_1 ++ ((l0.take ((ji3) : Int).toNat).drop (x7_1 : Int).toNat)) x6_1 (wrap64 (x7_1 + 512))) else (none)) else (none)) else (none)) else (if x4_1.length < 8796093022208 then ((some (x4_1 ++ [(⟨x7_1, 0⟩ : S40)] : List (S40))).bind fun y116 => (if 0 ≤ (wrap64 ((y116.length : Int) - 1)) then (if (wrap64 ((y116.length : Int) - 1)) < (y116.length : Int) then (if x5_1.length + ((l0.take ((ji3) : Int).toNat).drop (x7_1 : Int).toNat).length < 140737488355328 then (sparse_Pack.l0 k1 l0 (y116.set ((wrap64 ((y116.length : Int) - 1)) : Int).toNat (⟨(rd_T40 y116 (wrap64 ((y116.length : Int) - 1))).f0, wrap64 (((rd_T40 y116 (wrap64 ((y116.length : Int) - 1))).f1) + (((l0.take ((ji3) : Int).toNat).drop (x7_1 : Int).toNat).length : Int))⟩ : S40)) (x5_1 ++ ((l0.take ((ji3) : Int).toNat).drop (x7_1 : Int).toNat)) true (wrap64 (x7_1 + 512))) else (none)) else (none)) else (none))) else (none)))) = some (r1, r2) := H
              have A7 := Aside0.mk A70
              clear A70
              by_cases c8 : (t108.length : Int) = 0
              · rw [if_pos c8] at H
                have c8b0 : ((t108.length : Int) == 0) = true := beq_iff_eq.mpr c8
                have c8b1 : ((t108.length : Int) != 0) = false := bne_eq_false_iff_eq.mpr c8
                clear c8
                have H' := Aside0.mk H
                clear H
                obtain ⟨i09, hi09, _, hsz9, _⟩ := info_parts info5
                obtain ⟨A9, hcut9, hA9, hC9⟩ := print_mid_of (P := Tryd.prog) (Value.int .u8) 0 22 5 .i64 .i64 Tryd.underlying22 hi09 hsz9 A0 c0 l0 x7_1 (ji3) (of_decide_eq_true (by first | (with_reducible assumption) | assumption)) (by first | omega | exact of_decide_eq_true (by first | (with_reducible assumption) | assumption)) (of_decide_eq_true (by first | (with_reducible assumption) | assumption)) HC0.out
                have HR107 := Aside0.mk (Kd.C_of_reads (h1 := fun _ => rfl) (hA9 _ (Kd.reads_of_C HR0.out)))
                have HC107 := Aside0.mk hC9
                clear hA9 hC9 hi09 hsz9
                go_wp2_with (first | ((with_reducible refine gate_callee (f := 26) rfl ?_); refine goesL_ (some 24) rfl rfl Tryd.func26 (by kernel_rfl) rfl #[.slice A9 ((l0.take ((ji3) : Int).toNat).drop (x7_1 : Int).toNat).length (c0 - x7_1.toNat), .string (⟨#[0]⟩ : ByteArray)] rfl (by (try simp only [List.map_toArray, List.map_cons, List.map_nil]); first | done | (rw [show ((l0.take ((ji3) : Int).toNat).drop (x7_1 : Int).toNat).length = ((ji3).toNat - x7_1.toNat) from (by rw [List.length_drop, List.length_take]; have h_ : ((ji3) : Int) ≤ (l0.length : Int) := of_decide_eq_true (by first | (with_reducible assumption) | assumption); omega)] <;> rfl) | (simp only [hji3]; rfl) | rfl | (simp only [List.length_drop, List.length_take]; rfl)) ?_; (with_reducible refine (bytes_Trim.calls _ _ ((l0.take ((ji3) : Int).toNat).drop (x7_1 : Int).toNat) (⟨#[0]⟩ : ByteArray) t108 _ ?side1 ?side2 A7.out).mono ?_); (case side1 => repeat (first | exact (Kd.C_below HR107.out HB.out) | (with_reducible refine Kd.C_alloc ?_ _) | (with_reducible refine Kd.C_drewN ?_ _) | (with_reducible refine Kd.C_drew ?_))); (case side2 => exact HC107.out); rintro e w' ⟨At_, ct_, rfl, ⟨nd, rfl⟩⟩; refine ⟨_, rfl, ?_⟩))
                go_roundg k1
                case measure => have := HK1.out; omega
                case rel => exact ⟨(x4_1), (x5_1), (false), (wrap64 (x7_1 + 512)), (by first | rfl | (simp; done) | (simp [*]; done)), (by first | rfl | (simp; done) | (simp [*]; done)), H', ⟨by have := HK1.out; omega⟩, ⟨by (with_reducible repeat (first | apply Kd.R_alloc | apply Kd.R_drewN | apply Kd.R_drew)); exact HO_4.out⟩, ⟨by (with_reducible repeat (first | apply Kd.R_alloc | apply Kd.R_drewN | apply Kd.R_drew)); exact HO_5.out⟩, ⟨by repeat (first | (with_reducible first | exact HB.out | apply below_alloc | apply pw_below_drewN | apply below_drew1) | exact HB.out)⟩⟩
              · rw [if_neg c8] at H
                have c8b0 : ((t108.length : Int) == 0) = false := beq_eq_false_iff_ne.mpr c8
                have c8b1 : ((t108.length : Int) != 0) = true := bne_iff_ne.mpr c8
                have c8b2 : ¬ (t108 = []) := fun h_ => c8 (by rw [h_]; rfl)
                by_cases c11 : x6_1 = true
                · subst c11
                  have H1 : (if 0 ≤ (wrap64 ((x4_1.length : Int) - 1)) then (if (wrap64 ((x4_1.length : Int) - 1)) < (x4_1.length : Int) then (if x5_1.length + ((l0.take ((ji3) : Int).toNat).drop (x7_1 : Int).toNat).length < 140737488355328 then (sparse_Pack.l0 k1 l0 (x4_1.set ((wrap64 ((x4_1.length : Int) - 1)) : Int).toNat (⟨(rd_T40 x4_1 (wrap64 ((x4_1.length : Int) - 1))).f0, wrap64 (((rd_T40 x4_1 (wrap64 ((x4_1.length : Int) - 1))).f1) + (((l0.take ((ji3) : Int).toNat).drop (x7_1 : Int).toNat).length : Int))⟩ : S40)) (x5_1 ++ ((l0.take ((ji3) : Int).toNat).drop (x7_1 : Int).toNat)) true (wrap64 (x7_1 + 512))) else (none)) else (none)) else (none)) = some (r1, r2) := by rw [if_pos rfl] at H; exact H
                  clear H
                  have H := H1
                  clear H1
                  obtain ⟨ji12, hji12⟩ : ∃ j_ : Int, (wrap64 ((x4_1.length : Int) - 1)) = j_ := ⟨_, rfl⟩
                  replace H : (if 0 ≤ (ji12) then (if (ji12) < (x4_1.length : Int) then (if x5_1.length + ((l0.take ((ji3) : Int).toNat).drop (x7_1 : Int).toNat).length < 140737488355328 then (sparse_Pack.l0 k1 l0 (x4_1.set ((ji12) : Int).toNat (⟨(rd_T40 x4_1 (ji12)).f0, wrap64 (((rd_T40 x4_1 (ji12)).f1) + (((l0.take ((ji3) : Int).toNat).drop (x7_1 : Int).toNat).length : Int))⟩ : S40)) (x5_1 ++ ((l0.take ((ji3) : Int).toNat).drop (x7_1 : Int).toNat)) true (wrap64 (x7_1 + 512))) else (none)) else (none)) else (none)) = some (r1, r2) := by first | (rw [hji12] at H; exact H) | (simp only [hji12] at H ⊢; exact H)
                  (try rw [hji12] at A7)
                  have hji12w : (IntKind.i64.wrap ((x4_1.length : Int) - 1)) = ji12 := (i64_w _).trans hji12
                  by_cases c13 : 0 ≤ (ji12)
                  · rw [if_pos c13] at H
                    have c13b0 : decide (0 ≤ (ji12)) = true := decide_eq_true c13
                    clear c13
                    by_cases c14 : (ji12) < (x4_1.length : Int)
                    · rw [if_pos c14] at H
                      have c14b0 : decide ((ji12) < (x4_1.length : Int)) = true := decide_eq_true c14
                      clear c14
                      obtain ⟨y112, hy112⟩ : ∃ y_ : List (S40), y_ = (x4_1.set ((ji12) : Int).toNat (⟨(rd_T40 x4_1 (ji12)).f0, wrap64 (((rd_T40 x4_1 (ji12)).f1) + (((l0.take ((ji3) : Int).toNat).drop (x7_1 : Int).toNat).length : Int))⟩ : S40)) := ⟨_, rfl⟩
                      replace H : (if x5_1.length + ((l0.take ((ji3) : Int).toNat).drop (x7_1 : Int).toNat).length < 140737488355328 then (sparse_Pack.l0 k1 l0 y112 (x5_1 ++ ((l0.take ((ji3) : Int).toNat).drop (x7_1 : Int).toNat)) true (wrap64 (x7_1 + 512))) else (none)) = some (r1, r2) := by first | (rw [hy112]; with_reducible exact H) | (have H2_ := (Option.bind_some _ _).symm.trans H; rw [hy112]; with_reducible exact H2_) | (have H2_ := (Option.bind_some _ _).symm.trans H; with_reducible exact H2_) | with_reducible exact H | (rw [hy112]; exact H) | exact H
                      have Ny112 := Aside0.mk hy112
                      clear hy112
                      by_cases c16 : x5_1.length + ((l0.take ((ji3) : Int).toNat).drop (x7_1 : Int).toNat).length < 140737488355328
                      · rw [if_pos c16] at H
                        have LMc16 := Aside0.mk c16
                        clear c16
                        obtain ⟨y113, hy113⟩ : ∃ y_ : List Int, y_ = (x5_1 ++ ((l0.take ((ji3) : Int).toNat).drop (x7_1 : Int).toNat)) := ⟨_, rfl⟩
                        replace H : (sparse_Pack.l0 k1 l0 y112 y113 true (wrap64 (x7_1 + 512))) = some (r1, r2) := by first | (rw [hy113]; with_reducible exact H) | (have H2_ := (Option.bind_some _ _).symm.trans H; rw [hy113]; with_reducible exact H2_) | (have H2_ := (Option.bind_some _ _).symm.trans H; with_reducible exact H2_) | with_reducible exact H | (rw [hy113]; exact H) | exact H
                        have Ny113 := Aside0.mk hy113
                        clear hy113
                        have H' := Aside0.mk H
                        clear H
                        obtain ⟨i017, hi017, _, hsz17, _⟩ := info_parts info5
                        obtain ⟨A17, hcut17, hA17, hC17⟩ := print_mid_of (P := Tryd.prog) (Value.int .u8) 0 22 5 .i64 .i64 Tryd.underlying22 hi017 hsz17 A0 c0 l0 x7_1 (ji3) (of_decide_eq_true (by first | (with_reducible assumption) | assumption)) (by first | omega | exact of_decide_eq_true (by first | (with_reducible assumption) | assumption)) (of_decide_eq_true (by first | (with_reducible assumption) | assumption)) HC0.out
                        have HR107 := Aside0.mk (Kd.C_of_reads (h1 := fun _ => rfl) (hA17 _ (Kd.reads_of_C HR0.out)))
                        have HC107 := Aside0.mk hC17
                        clear hA17 hC17 hi017 hsz17
                        go_wp2_with (first | ((with_reducible refine gate_callee (f := 26) rfl ?_); refine goesL_ (some 24) rfl rfl Tryd.func26 (by kernel_rfl) rfl #[.slice A17 ((l0.take ((ji3) : Int).toNat).drop (x7_1 : Int).toNat).length (c0 - x7_1.toNat), .string (⟨#[0]⟩ : ByteArray)] rfl (by (try simp only [List.map_toArray, List.map_cons, List.map_nil]); first | done | (rw [show ((l0.take ((ji3) : Int).toNat).drop (x7_1 : Int).toNat).length = ((ji3).toNat - x7_1.toNat) from (by rw [List.length_drop, List.length_take]; have h_ : ((ji3) : Int) ≤ (l0.length : Int) := of_decide_eq_true (by first | (with_reducible assumption) | assumption); omega)] <;> rfl) | (simp only [hji3]; rfl) | rfl | (simp only [List.length_drop, List.length_take]; rfl)) ?_; (with_reducible refine (bytes_Trim.calls _ _ ((l0.take ((ji3) : Int).toNat).drop (x7_1 : Int).toNat) (⟨#[0]⟩ : ByteArray) t108 _ ?side1 ?side2 A7.out).mono ?_); (case side1 => repeat (first | exact (Kd.C_below HR107.out HB.out) | (with_reducible refine Kd.C_alloc ?_ _) | (with_reducible refine Kd.C_drewN ?_ _) | (with_reducible refine Kd.C_drew ?_))); (case side2 => exact HC107.out); rintro e w' ⟨At_, ct_, rfl, ⟨nd, rfl⟩⟩; refine ⟨_, rfl, ?_⟩; (try (rw [drewN_self wr]; generalize hq_ : World.drewN wr _ = wr; have n0_ : Aside0 (Kd.R k40 40 wr w.heap.size (fun _ => True) u4 x4_1) := ⟨by rw [← hq_]; exact (by (with_reducible repeat (first | apply Kd.R_alloc | apply Kd.R_drewN | apply Kd.R_drew)); exact HO_4.out)⟩; have n1_ : Aside0 (Kd.R (Kd.int .u8) 5 wr w.heap.size (fun _ => True) u5 x5_1) := ⟨by rw [← hq_]; exact (by (with_reducible repeat (first | apply Kd.R_alloc | apply Kd.R_drewN | apply Kd.R_drew)); exact HO_5.out)⟩; have n2_ : Aside0 (Below w.heap.size w wr) := ⟨by rw [← hq_]; exact (by repeat (first | (with_reducible first | exact HB.out | apply below_alloc | apply pw_below_drewN | apply below_drew1) | exact HB.out))⟩; clear HO_4 HO_5 HB hq_; have HO_4 := n0_; have HO_5 := n1_; have HB := n2_; clear n0_ n1_ n2_)); obtain ⟨Ao19, co19, eo19⟩ := Kd.R_slice HO_4.out; subst eo19; have p111 : 0 ≤ ((ji12) : Int) := of_decide_eq_true (by first | (with_reducible assumption) | assumption); have q111 : (ji12) < (x4_1.length : Int) := of_decide_eq_true (by first | (with_reducible assumption) | assumption); obtain ⟨ad111, e111, hx111_0, hx111_1⟩ := at_T40 (Kd.R_reads' HO_4.out).2.2 (ji12) p111 q111; cases e111; replace p111 := eq_true p111; replace q111 := eq_true q111; have p15 : 0 ≤ ((ji12) : Int) := of_decide_eq_true (by first | (with_reducible assumption) | assumption); have q15 : ((ji12) : Int) < ((x4_1.length : Int) : Int) := of_decide_eq_true (by first | (with_reducible assumption) | assumption); obtain ⟨go15, co15, eo15, gb15, gl15, cl15, HG15⟩ := Kd.R_form HO_4.out (by omega); (first | cases eo15 | (injection eo15 with ea_ en_ ec_; (first | subst ea_ | (injection ea_ with ea_; subst ea_)); subst ec_; clear en_)); have GB15 := Aside0.mk gb15; have GG15 := Aside0.mk HG15; clear gb15 gl15 HG15; (first | simp only [add_plain] at hx111_0 | skip); (first | simp only [add_plain] at hx111_1 | skip); obtain ⟨ce15, hcl15, hM15, hcc15, hfr15⟩ := Kd.R_elem HO_4.out z40 ((ji12) : Int) p15 q15; obtain rfl := k40_openM hM15; have hx15_0 : wr.cell? ⟨go15, ((ji12) : Int).toNat * 2, none⟩ = some (.int .i64 ((rd_T40 x4_1 (ji12)).f0)) := hcc15 0 _ rfl; have hx15_1 : wr.cell? ⟨go15, ((ji12) : Int).toNat * 2 + 1, none⟩ = some (.int .i64 ((rd_T40 x4_1 (ji12)).f1)) := hcc15 1 _ rfl; have hf15_0 : wr.frozen? ⟨go15, ((ji12) : Int).toNat * 2, none⟩ = false := hfr15 0; have hf15_1 : wr.frozen? ⟨go15, ((ji12) : Int).toNat * 2 + 1, none⟩ = false := hfr15 1; clear hcl15 hcc15 hfr15 hM15; replace p15 := eq_true p15; replace q15 := eq_true q15; have HX20 := Aside0.mk (show Kd.R k40 40 wr w.heap.size (fun _ => True) (.slice (some ⟨go15, 0, none⟩) x4_1.length co19) x4_1 from (by (with_reducible repeat (first | apply Kd.R_alloc | apply Kd.R_drewN | apply Kd.R_drew)); exact HO_4.out)); obtain ⟨ce20, hcl20, hM20, hcc20, hfr20⟩ := Kd.R_elem HX20.out z40 ((ji12) : Int) (of_decide_eq_true (by first | (with_reducible assumption) | assumption)) (by have h_ : ((ji12) : Int) < ((x4_1.length : Int) : Int) := of_decide_eq_true (by first | (with_reducible assumption) | assumption); first | exact h_ | (have e_ := (Kd.R_reads' HO_4.out).1; omega) | simpa using h_); obtain rfl := k40_openM hM20; have HP20 := Kd.R_seg HX20.out ((ji12) : Int) (of_decide_eq_true (by first | (with_reducible assumption) | assumption)) (by have h_ : ((ji12) : Int) < ((x4_1.length : Int) : Int) := of_decide_eq_true (by first | (with_reducible assumption) | assumption); first | exact h_ | (have e_ := (Kd.R_reads' HO_4.out).1; omega) | simpa using h_) (seg := [.int .i64 (wrap64 (((rd_T40 x4_1 (ji12)).f1) + (((l0.take ((ji3) : Int).toNat).drop (x7_1 : Int).toNat).length : Int)))]) (j := 1) hcl20 hcc20 (show 2 ≤ 2 from by decide) (x' := (⟨(rd_T40 x4_1 (ji12)).f0, wrap64 (((rd_T40 x4_1 (ji12)).f1) + (((l0.take ((ji3) : Int).toNat).drop (x7_1 : Int).toNat).length : Int))⟩ : S40)) (k40_mkM _ _ _ (⟨(rd_T40 x4_1 (ji12)).f0, wrap64 (((rd_T40 x4_1 (ji12)).f1) + (((l0.take ((ji3) : Int).toNat).drop (x7_1 : Int).toNat).length : Int))⟩ : S40) ) (fun _ hk => hk); have hx20_1 := hcc20 1 _ rfl; (try simp only [show (k40).sz = 2 from rfl, Nat.mul_one, Nat.add_zero] at hx20_1); have hf20_1 := hfr20 1; (try simp only [show (k40).sz = 2 from rfl, Nat.mul_one, Nat.add_zero] at hf20_1); clear hcl20 hcc20 hfr20 hM20) | ((with_reducible refine gate_store (t := 3) (p := 45) rfl ?_); refine store_event (t := 3) (p := 45) (v := ?vo_w21) (w1 := (wr.setCell ⟨go15, ((ji12) : Int).toNat * 2 + 1, none⟩ (.int .i64 (wrap64 (((rd_T40 x4_1 (ji12)).f1) + (((l0.take ((ji3) : Int).toNat).drop (x7_1 : Int).toNat).length : Int)))))) ?hg ?ho ?hn ?hr ?_; (case ho => rfl); (case hg => rfl); (case hn => rfl); (case hr => first | (go_simp; done) | (go_simp; rfl)); intro w21 hw; have hg : wr.grownBy w21 (some go15) := (by rw [hw]; exact HP20.2); have hp_ : Kd.R k40 40 w21 w.heap.size (fun _ => True) (.slice (some ⟨go15, 0, none⟩) x4_1.length co19) y112 := (by rw [hw, Ny112.out]; exact HP20.1); clear HP20; have n0_ := Aside0.mk (hp_); have n1_ := Aside0.mk (Kd.R_over' (v := (.slice (some ⟨go15, 0, none⟩) x4_1.length co19)) (by (with_reducible repeat (first | apply Kd.R_alloc | apply Kd.R_drewN | apply Kd.R_drew)); exact HO_5.out) (Kd.R_typed HO_4.out) (by decide) hg); have n2_ := Aside0.mk ((by rw [hw]; exact below_set (HB.out) GB15.out : Below w.heap.size w w21)); clear HO_4; clear HO_5; clear HB; have HO_4 := n0_; have HO_5 := n1_; have HB := n2_; clear n0_ n1_ n2_; clear hg hw hp_) | ((with_reducible refine gate_builtin (b := .append) (xs := #[.tmp 46, .tmp 47]) rfl ?_); at_builtin; refine Kd.R_append_rows (Kd.int .u8) (w0 := w) w.heap.size rfl (.tmp 46) (.tmp 47) 22 5 (.int .u8 0) 1 rfl Tryd.underlying22 info5 rfl (by decide) (by omega) u5 x5_1 ((l0.take ((ji3) : Int).toNat).drop (x7_1 : Int).toNat) _ _ _ (fun _ => True) (fun _ => False) rfl rfl ?aO ?aR (fun _ _ h => h) (fun _ h => h.elim) ?aF ?aB ?aS ?aL ?_; (case aR => first | (rw [← show ((l0.take ((ji3) : Int).toNat).drop (x7_1 : Int).toNat).length = ((ji3).toNat - x7_1.toNat) from (by rw [List.length_drop, List.length_take]; have h_ : ((ji3) : Int) ≤ (l0.length : Int) := of_decide_eq_true (by first | (with_reducible assumption) | assumption); omega)]; repeat (first | exact (Kd.C_below HR107.out HB.out) | (with_reducible refine Kd.C_alloc ?_ _) | (with_reducible refine Kd.C_drewN ?_ _) | (with_reducible refine Kd.C_drew ?_))) | (repeat (first | exact (Kd.C_below HR107.out HB.out) | (with_reducible refine Kd.C_alloc ?_ _) | (with_reducible refine Kd.C_drewN ?_ _) | (with_reducible refine Kd.C_drew ?_)))); (case aB => exact (by repeat (first | (with_reducible first | exact HB.out | apply below_alloc | apply pw_below_drewN | apply below_drew1) | exact HB.out))); (case aF => exact (fun _ _ => trivial)); (case aO => exact (by (with_reducible repeat (first | apply Kd.R_alloc | apply Kd.R_drewN | apply Kd.R_drew)); exact HO_5.out)); (case aS => exact (below_size (by repeat (first | (with_reducible first | exact HB.out | apply below_alloc | apply pw_below_drewN | apply below_drew1) | exact HB.out)))); (case aL => have := LMc16.out; have hlx_ := (show ((l0.take ((ji3) : Int).toNat).drop (x7_1 : Int).toNat).length = ((ji3).toNat - x7_1.toNat) from (by rw [List.length_drop, List.length_take]; have h_ : ((ji3) : Int) ≤ (l0.length : Int) := of_decide_eq_true (by first | (with_reducible assumption) | assumption); omega)); omega); intro v114 w22 ho hb hg hat; rw [← Ny113.out] at ho; have n0_ := Aside0.mk (Kd.R_over' (by (with_reducible repeat (first | apply Kd.R_alloc | apply Kd.R_drewN | apply Kd.R_drew)); exact HO_4.out) (Kd.R_typed (by (with_reducible repeat (first | apply Kd.R_alloc | apply Kd.R_drewN | apply Kd.R_drew)); exact HO_5.out)) (by decide) hg); have n1_ := Aside0.mk (hb); have n2_ := Aside0.mk (ho); clear HO_4; clear HB; clear HO_5; have HO_4 := n0_; have HB := n1_; have HO115 := n2_; clear n0_ n1_ n2_; clear ho hb hg hat))
                        go_roundg k1
                        case measure => have := HK1.out; omega
                        case rel => exact ⟨(y112), (y113), (true), (wrap64 (x7_1 + 512)), (by first | rfl | (simp; done) | (simp [*]; done)), (by first | rfl | (simp; done) | (simp [*]; done)), H', ⟨by have := HK1.out; omega⟩, ⟨by (with_reducible repeat (first | apply Kd.R_alloc | apply Kd.R_drewN | apply Kd.R_drew)); exact HO_4.out⟩, ⟨by (with_reducible repeat (first | apply Kd.R_alloc | apply Kd.R_drewN | apply Kd.R_drew)); exact HO115.out⟩, ⟨by repeat (first | (with_reducible first | exact HB.out | apply below_alloc | apply pw_below_drewN | apply below_drew1) | exact HB.out)⟩⟩
                      · rw [if_neg c16] at H
                        exact absurd H (by simp)
                    · rw [if_neg c14] at H
                      exact absurd H (by simp)
                  · rw [if_neg c13] at H
                    exact absurd H (by simp)
                · replace c11 := Bool.eq_false_iff.mpr c11
                  subst c11
                  have H1 : (if x4_1.length < 8796093022208 then ((some (x4_1 ++ [(⟨x7_1, 0⟩ : S40)] : List (S40))).bind fun y116 => (if 0 ≤ (wrap64 ((y116.length : Int) - 1)) then (if (wrap64 ((y116.length : Int) - 1)) < (y116.length : Int) then (if x5_1.length + ((l0.take ((ji3) : Int).toNat).drop (x7_1 : Int).toNat).length < 140737488355328 then (sparse_Pack.l0 k1 l0 (y116.set ((wrap64 ((y116.length : Int) - 1)) : Int).toNat (⟨(rd_T40 y116 (wrap64 ((y116.length : Int) - 1))).f0, wrap64 (((rd_T40 y116 (wrap64 ((y116.length : Int) - 1))).f1) + (((l0.take ((ji3) : Int).toNat).drop (x7_1 : Int).toNat).length : Int))⟩ : S40)) (x5_1 ++ ((l0.take ((ji3) : Int).toNat).drop (x7_1 : Int).toNat)) true (wrap64 (x7_1 + 512))) else (none)) else (none)) else (none))) else (none)) = some (r1, r2) := by rw [if_neg (show ¬ (false = true) by decide)] at H; exact H
                  clear H
                  have H := H1
                  clear H1
                  by_cases c23 : x4_1.length < 8796093022208
                  · rw [if_pos c23] at H
                    have LMc23 := Aside0.mk c23
                    clear c23
                    obtain ⟨y116, hy116⟩ : ∃ y_ : List (S40), y_ = (x4_1 ++ [(⟨x7_1, 0⟩ : S40)]) := ⟨_, rfl⟩
                    replace H : (if 0 ≤ (wrap64 ((y116.length : Int) - 1)) then (if (wrap64 ((y116.length : Int) - 1)) < (y116.length : Int) then (if x5_1.length + ((l0.take ((ji3) : Int).toNat).drop (x7_1 : Int).toNat).length < 140737488355328 then (sparse_Pack.l0 k1 l0 (y116.set ((wrap64 ((y116.length : Int) - 1)) : Int).toNat (⟨(rd_T40 y116 (wrap64 ((y116.length : Int) - 1))).f0, wrap64 (((rd_T40 y116 (wrap64 ((y116.length : Int) - 1))).f1) + (((l0.take ((ji3) : Int).toNat).drop (x7_1 : Int).toNat).length : Int))⟩ : S40)) (x5_1 ++ ((l0.take ((ji3) : Int).toNat).drop (x7_1 : Int).toNat)) true (wrap64 (x7_1 + 512))) else (none)) else (none)) else (none)) = some (r1, r2) := by first | (rw [hy116]; with_reducible exact H) | (have H2_ := (Option.bind_some _ _).symm.trans H; rw [hy116]; with_reducible exact H2_) | (have H2_ := (Option.bind_some _ _).symm.trans H; with_reducible exact H2_) | with_reducible exact H | (rw [hy116]; exact H) | exact H
                    have Ny116 := Aside0.mk hy116
                    clear hy116
                    obtain ⟨ji24, hji24⟩ : ∃ j_ : Int, (wrap64 ((y116.length : Int) - 1)) = j_ := ⟨_, rfl⟩
                    replace H : (if 0 ≤ (ji24) then (if (ji24) < (y116.length : Int) then (if x5_1.length + ((l0.take ((ji3) : Int).toNat).drop (x7_1 : Int).toNat).length < 140737488355328 then (sparse_Pack.l0 k1 l0 (y116.set ((ji24) : Int).toNat (⟨(rd_T40 y116 (ji24)).f0, wrap64 (((rd_T40 y116 (ji24)).f1) + (((l0.take ((ji3) : Int).toNat).drop (x7_1 : Int).toNat).length : Int))⟩ : S40)) (x5_1 ++ ((l0.take ((ji3) : Int).toNat).drop (x7_1 : Int).toNat)) true (wrap64 (x7_1 + 512))) else (none)) else (none)) else (none)) = some (r1, r2) := by first | (rw [hji24] at H; exact H) | (simp only [hji24] at H ⊢; exact H)
                    (try rw [hji24] at A7)
                    have hji24w : (IntKind.i64.wrap ((y116.length : Int) - 1)) = ji24 := (i64_w _).trans hji24
                    by_cases c25 : 0 ≤ (ji24)
                    · rw [if_pos c25] at H
                      have c25b0 : decide (0 ≤ (ji24)) = true := decide_eq_true c25
                      clear c25
                      by_cases c26 : (ji24) < (y116.length : Int)
                      · rw [if_pos c26] at H
                        have c26b0 : decide ((ji24) < (y116.length : Int)) = true := decide_eq_true c26
                        clear c26
                        obtain ⟨y120, hy120⟩ : ∃ y_ : List (S40), y_ = (y116.set ((ji24) : Int).toNat (⟨(rd_T40 y116 (ji24)).f0, wrap64 (((rd_T40 y116 (ji24)).f1) + (((l0.take ((ji3) : Int).toNat).drop (x7_1 : Int).toNat).length : Int))⟩ : S40)) := ⟨_, rfl⟩
                        replace H : (if x5_1.length + ((l0.take ((ji3) : Int).toNat).drop (x7_1 : Int).toNat).length < 140737488355328 then (sparse_Pack.l0 k1 l0 y120 (x5_1 ++ ((l0.take ((ji3) : Int).toNat).drop (x7_1 : Int).toNat)) true (wrap64 (x7_1 + 512))) else (none)) = some (r1, r2) := by first | (rw [hy120]; with_reducible exact H) | (have H2_ := (Option.bind_some _ _).symm.trans H; rw [hy120]; with_reducible exact H2_) | (have H2_ := (Option.bind_some _ _).symm.trans H; with_reducible exact H2_) | with_reducible exact H | (rw [hy120]; exact H) | exact H
                        have Ny120 := Aside0.mk hy120
                        clear hy120
                        by_cases c28 : x5_1.length + ((l0.take ((ji3) : Int).toNat).drop (x7_1 : Int).toNat).length < 140737488355328
                        · rw [if_pos c28] at H
                          have LMc28 := Aside0.mk c28
                          clear c28
                          obtain ⟨y121, hy121⟩ : ∃ y_ : List Int, y_ = (x5_1 ++ ((l0.take ((ji3) : Int).toNat).drop (x7_1 : Int).toNat)) := ⟨_, rfl⟩
                          replace H : (sparse_Pack.l0 k1 l0 y120 y121 true (wrap64 (x7_1 + 512))) = some (r1, r2) := by first | (rw [hy121]; with_reducible exact H) | (have H2_ := (Option.bind_some _ _).symm.trans H; rw [hy121]; with_reducible exact H2_) | (have H2_ := (Option.bind_some _ _).symm.trans H; with_reducible exact H2_) | with_reducible exact H | (rw [hy121]; exact H) | exact H
                          have Ny121 := Aside0.mk hy121
                          clear hy121
                          have H' := Aside0.mk H
                          clear H
                          obtain ⟨i029, hi029, _, hsz29, _⟩ := info_parts info5
                          obtain ⟨A29, hcut29, hA29, hC29⟩ := print_mid_of (P := Tryd.prog) (Value.int .u8) 0 22 5 .i64 .i64 Tryd.underlying22 hi029 hsz29 A0 c0 l0 x7_1 (ji3) (of_decide_eq_true (by first | (with_reducible assumption) | assumption)) (by first | omega | exact of_decide_eq_true (by first | (with_reducible assumption) | assumption)) (of_decide_eq_true (by first | (with_reducible assumption) | assumption)) HC0.out
                          have HR107 := Aside0.mk (Kd.C_of_reads (h1 := fun _ => rfl) (hA29 _ (Kd.reads_of_C HR0.out)))
                          have HC107 := Aside0.mk hC29
                          clear hA29 hC29 hi029 hsz29
                          go_wp2_with (first | ((with_reducible refine gate_callee (f := 26) rfl ?_); refine goesL_ (some 24) rfl rfl Tryd.func26 (by kernel_rfl) rfl #[.slice A29 ((l0.take ((ji3) : Int).toNat).drop (x7_1 : Int).toNat).length (c0 - x7_1.toNat), .string (⟨#[0]⟩ : ByteArray)] rfl (by (try simp only [List.map_toArray, List.map_cons, List.map_nil]); first | done | (rw [show ((l0.take ((ji3) : Int).toNat).drop (x7_1 : Int).toNat).length = ((ji3).toNat - x7_1.toNat) from (by rw [List.length_drop, List.length_take]; have h_ : ((ji3) : Int) ≤ (l0.length : Int) := of_decide_eq_true (by first | (with_reducible assumption) | assumption); omega)] <;> rfl) | (simp only [hji3]; rfl) | rfl | (simp only [List.length_drop, List.length_take]; rfl)) ?_; (with_reducible refine (bytes_Trim.calls _ _ ((l0.take ((ji3) : Int).toNat).drop (x7_1 : Int).toNat) (⟨#[0]⟩ : ByteArray) t108 _ ?side1 ?side2 A7.out).mono ?_); (case side1 => repeat (first | exact (Kd.C_below HR107.out HB.out) | (with_reducible refine Kd.C_alloc ?_ _) | (with_reducible refine Kd.C_drewN ?_ _) | (with_reducible refine Kd.C_drew ?_))); (case side2 => exact HC107.out); rintro e w' ⟨At_, ct_, rfl, ⟨nd, rfl⟩⟩; refine ⟨_, rfl, ?_⟩; (try (rw [drewN_self wr]; generalize hq_ : World.drewN wr _ = wr; have n0_ : Aside0 (Kd.R k40 40 wr w.heap.size (fun _ => True) u4 x4_1) := ⟨by rw [← hq_]; exact (by (with_reducible repeat (first | apply Kd.R_alloc | apply Kd.R_drewN | apply Kd.R_drew)); exact HO_4.out)⟩; have n1_ : Aside0 (Kd.R (Kd.int .u8) 5 wr w.heap.size (fun _ => True) u5 x5_1) := ⟨by rw [← hq_]; exact (by (with_reducible repeat (first | apply Kd.R_alloc | apply Kd.R_drewN | apply Kd.R_drew)); exact HO_5.out)⟩; have n2_ : Aside0 (Below w.heap.size w wr) := ⟨by rw [← hq_]; exact (by repeat (first | (with_reducible first | exact HB.out | apply below_alloc | apply pw_below_drewN | apply below_drew1) | exact HB.out))⟩; clear HO_4 HO_5 HB hq_; have HO_4 := n0_; have HO_5 := n1_; have HB := n2_; clear n0_ n1_ n2_))) | ((with_reducible refine gate_builtin (b := .append) (xs := #[.tmp 29, .tmp 32]) rfl ?_); at_builtin; refine Kd.R_append k40 (w0 := w) w.heap.size rfl (.tmp 29) (.tmp 32) 23 40 (.agg #[(.int .i64 0), (.int .i64 0)]) 16 rfl Tryd.underlying23 info40 rfl (by decide) (by omega) u4 x4_1 (⟨x7_1, 0⟩ : S40) [.int .i64 x7_1, .int .i64 0] (fun _ => True) (fun _ => False) rfl rfl ?aP (fun _ hk => hk.elim) ?aF ?aO ?aB ?aS ?aL ?_; (case aP => exact k40_mkM _ _ _ (⟨x7_1, 0⟩ : S40)); (case aB => exact (by repeat (first | (with_reducible first | exact HB.out | apply below_alloc | apply pw_below_drewN | apply below_drew1) | exact HB.out))); (case aF => exact (fun _ _ => trivial)); (case aO => exact (by (with_reducible repeat (first | apply Kd.R_alloc | apply Kd.R_drewN | apply Kd.R_drew)); exact HO_4.out)); (case aS => exact (below_size (by repeat (first | (with_reducible first | exact HB.out | apply below_alloc | apply pw_below_drewN | apply below_drew1) | exact HB.out)))); (case aL => have := LMc23.out; omega); intro v117 w31 ho hb hg hat; rw [← Ny116.out] at ho; have n0_ := Aside0.mk (Kd.R_over' (by (with_reducible repeat (first | apply Kd.R_alloc | apply Kd.R_drewN | apply Kd.R_drew)); exact HO_5.out) (Kd.R_typed (by (with_reducible repeat (first | apply Kd.R_alloc | apply Kd.R_drewN | apply Kd.R_drew)); exact HO_4.out)) (by decide) hg); have n1_ := Aside0.mk (hb); have n2_ := Aside0.mk (ho); clear HO_5; clear HB; clear HO_4; have HO_5 := n0_; have HB := n1_; have HO118 := n2_; clear n0_ n1_ n2_; clear ho hb hg hat; obtain ⟨Ao32, co32, eo32⟩ := Kd.R_slice HO118.out; subst eo32; have p119 : 0 ≤ ((ji24) : Int) := of_decide_eq_true (by first | (with_reducible assumption) | assumption); have q119 : (ji24) < (y116.length : Int) := of_decide_eq_true (by first | (with_reducible assumption) | assumption); obtain ⟨ad119, e119, hx119_0, hx119_1⟩ := at_T40 (Kd.R_reads' HO118.out).2.2 (ji24) p119 q119; cases e119; replace p119 := eq_true p119; replace q119 := eq_true q119; have p27 : 0 ≤ ((ji24) : Int) := of_decide_eq_true (by first | (with_reducible assumption) | assumption); have q27 : ((ji24) : Int) < ((y116.length : Int) : Int) := of_decide_eq_true (by first | (with_reducible assumption) | assumption); obtain ⟨go27, co27, eo27, gb27, gl27, cl27, HG27⟩ := Kd.R_form HO118.out (by omega); (first | cases eo27 | (injection eo27 with ea_ en_ ec_; (first | subst ea_ | (injection ea_ with ea_; subst ea_)); subst ec_; clear en_)); have GB27 := Aside0.mk gb27; have GG27 := Aside0.mk HG27; clear gb27 gl27 HG27; (first | simp only [add_plain] at hx119_0 | skip); (first | simp only [add_plain] at hx119_1 | skip); obtain ⟨ce27, hcl27, hM27, hcc27, hfr27⟩ := Kd.R_elem HO118.out z40 ((ji24) : Int) p27 q27; obtain rfl := k40_openM hM27; have hx27_0 : w31.cell? ⟨go27, ((ji24) : Int).toNat * 2, none⟩ = some (.int .i64 ((rd_T40 y116 (ji24)).f0)) := hcc27 0 _ rfl; have hx27_1 : w31.cell? ⟨go27, ((ji24) : Int).toNat * 2 + 1, none⟩ = some (.int .i64 ((rd_T40 y116 (ji24)).f1)) := hcc27 1 _ rfl; have hf27_0 : w31.frozen? ⟨go27, ((ji24) : Int).toNat * 2, none⟩ = false := hfr27 0; have hf27_1 : w31.frozen? ⟨go27, ((ji24) : Int).toNat * 2 + 1, none⟩ = false := hfr27 1; clear hcl27 hcc27 hfr27 hM27; replace p27 := eq_true p27; replace q27 := eq_true q27; have HX33 := Aside0.mk (show Kd.R k40 40 w31 w.heap.size (fun _ => True) (.slice (some ⟨go27, 0, none⟩) y116.length co32) y116 from (by (with_reducible repeat (first | apply Kd.R_alloc | apply Kd.R_drewN | apply Kd.R_drew)); exact HO118.out)); obtain ⟨ce33, hcl33, hM33, hcc33, hfr33⟩ := Kd.R_elem HX33.out z40 ((ji24) : Int) (of_decide_eq_true (by first | (with_reducible assumption) | assumption)) (by have h_ : ((ji24) : Int) < ((y116.length : Int) : Int) := of_decide_eq_true (by first | (with_reducible assumption) | assumption); first | exact h_ | (have e_ := (Kd.R_reads' HO118.out).1; omega) | simpa using h_); obtain rfl := k40_openM hM33; have HP33 := Kd.R_seg HX33.out ((ji24) : Int) (of_decide_eq_true (by first | (with_reducible assumption) | assumption)) (by have h_ : ((ji24) : Int) < ((y116.length : Int) : Int) := of_decide_eq_true (by first | (with_reducible assumption) | assumption); first | exact h_ | (have e_ := (Kd.R_reads' HO118.out).1; omega) | simpa using h_) (seg := [.int .i64 (wrap64 (((rd_T40 y116 (ji24)).f1) + (((l0.take ((ji3) : Int).toNat).drop (x7_1 : Int).toNat).length : Int)))]) (j := 1) hcl33 hcc33 (show 2 ≤ 2 from by decide) (x' := (⟨(rd_T40 y116 (ji24)).f0, wrap64 (((rd_T40 y116 (ji24)).f1) + (((l0.take ((ji3) : Int).toNat).drop (x7_1 : Int).toNat).length : Int))⟩ : S40)) (k40_mkM _ _ _ (⟨(rd_T40 y116 (ji24)).f0, wrap64 (((rd_T40 y116 (ji24)).f1) + (((l0.take ((ji3) : Int).toNat).drop (x7_1 : Int).toNat).length : Int))⟩ : S40) ) (fun _ hk => hk); have hx33_1 := hcc33 1 _ rfl; (try simp only [show (k40).sz = 2 from rfl, Nat.mul_one, Nat.add_zero] at hx33_1); have hf33_1 := hfr33 1; (try simp only [show (k40).sz = 2 from rfl, Nat.mul_one, Nat.add_zero] at hf33_1); clear hcl33 hcc33 hfr33 hM33) | ((with_reducible refine gate_store (t := 3) (p := 45) rfl ?_); refine store_event (t := 3) (p := 45) (v := ?vo_w34) (w1 := (w31.setCell ⟨go27, ((ji24) : Int).toNat * 2 + 1, none⟩ (.int .i64 (wrap64 (((rd_T40 y116 (ji24)).f1) + (((l0.take ((ji3) : Int).toNat).drop (x7_1 : Int).toNat).length : Int)))))) ?hg ?ho ?hn ?hr ?_; (case ho => rfl); (case hg => rfl); (case hn => rfl); (case hr => first | (go_simp; done) | (go_simp; rfl)); intro w34 hw; have hg : w31.grownBy w34 (some go27) := (by rw [hw]; exact HP33.2); have hp_ : Kd.R k40 40 w34 w.heap.size (fun _ => True) (.slice (some ⟨go27, 0, none⟩) y116.length co32) y120 := (by rw [hw, Ny120.out]; exact HP33.1); clear HP33; have n0_ := Aside0.mk (Kd.R_over' (v := (.slice (some ⟨go27, 0, none⟩) y116.length co32)) (by (with_reducible repeat (first | apply Kd.R_alloc | apply Kd.R_drewN | apply Kd.R_drew)); exact HO_5.out) (Kd.R_typed HO118.out) (by decide) hg); have n1_ := Aside0.mk (hp_); have n2_ := Aside0.mk ((by rw [hw]; exact below_set (HB.out) GB27.out : Below w.heap.size w w34)); clear HO_5; clear HO118; clear HB; have HO_5 := n0_; have HO118 := n1_; have HB := n2_; clear n0_ n1_ n2_; clear hg hw hp_) | ((with_reducible refine gate_builtin (b := .append) (xs := #[.tmp 46, .tmp 47]) rfl ?_); at_builtin; refine Kd.R_append_rows (Kd.int .u8) (w0 := w) w.heap.size rfl (.tmp 46) (.tmp 47) 22 5 (.int .u8 0) 1 rfl Tryd.underlying22 info5 rfl (by decide) (by omega) u5 x5_1 ((l0.take ((ji3) : Int).toNat).drop (x7_1 : Int).toNat) _ _ _ (fun _ => True) (fun _ => False) rfl rfl ?aO ?aR (fun _ _ h => h) (fun _ h => h.elim) ?aF ?aB ?aS ?aL ?_; (case aR => first | (rw [← show ((l0.take ((ji3) : Int).toNat).drop (x7_1 : Int).toNat).length = ((ji3).toNat - x7_1.toNat) from (by rw [List.length_drop, List.length_take]; have h_ : ((ji3) : Int) ≤ (l0.length : Int) := of_decide_eq_true (by first | (with_reducible assumption) | assumption); omega)]; repeat (first | exact (Kd.C_below HR107.out HB.out) | (with_reducible refine Kd.C_alloc ?_ _) | (with_reducible refine Kd.C_drewN ?_ _) | (with_reducible refine Kd.C_drew ?_))) | (repeat (first | exact (Kd.C_below HR107.out HB.out) | (with_reducible refine Kd.C_alloc ?_ _) | (with_reducible refine Kd.C_drewN ?_ _) | (with_reducible refine Kd.C_drew ?_)))); (case aB => exact (by repeat (first | (with_reducible first | exact HB.out | apply below_alloc | apply pw_below_drewN | apply below_drew1) | exact HB.out))); (case aF => exact (fun _ _ => trivial)); (case aO => exact (by (with_reducible repeat (first | apply Kd.R_alloc | apply Kd.R_drewN | apply Kd.R_drew)); exact HO_5.out)); (case aS => exact (below_size (by repeat (first | (with_reducible first | exact HB.out | apply below_alloc | apply pw_below_drewN | apply below_drew1) | exact HB.out)))); (case aL => have := LMc28.out; have hlx_ := (show ((l0.take ((ji3) : Int).toNat).drop (x7_1 : Int).toNat).length = ((ji3).toNat - x7_1.toNat) from (by rw [List.length_drop, List.length_take]; have h_ : ((ji3) : Int) ≤ (l0.length : Int) := of_decide_eq_true (by first | (with_reducible assumption) | assumption); omega)); omega); intro v122 w35 ho hb hg hat; rw [← Ny121.out] at ho; have n0_ := Aside0.mk (Kd.R_over' (by (with_reducible repeat (first | apply Kd.R_alloc | apply Kd.R_drewN | apply Kd.R_drew)); exact HO118.out) (Kd.R_typed (by (with_reducible repeat (first | apply Kd.R_alloc | apply Kd.R_drewN | apply Kd.R_drew)); exact HO_5.out)) (by decide) hg); have n1_ := Aside0.mk (hb); have n2_ := Aside0.mk (ho); clear HO118; clear HB; clear HO_5; have HO118 := n0_; have HB := n1_; have HO123 := n2_; clear n0_ n1_ n2_; clear ho hb hg hat))
                          go_roundg k1
                          case measure => have := HK1.out; omega
                          case rel => exact ⟨(y120), (y121), (true), (wrap64 (x7_1 + 512)), (by first | rfl | (simp; done) | (simp [*]; done)), (by first | rfl | (simp; done) | (simp [*]; done)), H', ⟨by have := HK1.out; omega⟩, ⟨by (with_reducible repeat (first | apply Kd.R_alloc | apply Kd.R_drewN | apply Kd.R_drew)); exact HO118.out⟩, ⟨by (with_reducible repeat (first | apply Kd.R_alloc | apply Kd.R_drewN | apply Kd.R_drew)); exact HO123.out⟩, ⟨by repeat (first | (with_reducible first | exact HB.out | apply below_alloc | apply pw_below_drewN | apply below_drew1) | exact HB.out)⟩⟩
                        · rw [if_neg c28] at H
                          exact absurd H (by simp)
                      · rw [if_neg c26] at H
                        exact absurd H (by simp)
                    · rw [if_neg c25] at H
                      exact absurd H (by simp)
                  · rw [if_neg c23] at H
                    exact absurd H (by simp)
            · rw [if_neg c6] at H
              exact absurd H (by simp)
          · rw [if_neg c5] at H
            exact absurd H (by simp)
        · rw [if_neg c4] at H
          exact absurd H (by simp)
      · rw [if_neg c2] at H
        have c2b0 : decide (x7_1 < (l0.length : Int)) = false := decide_eq_false c2
        clear c2
        simp only [Option.some.injEq, Prod.mk.injEq] at H
        obtain ⟨rfl, rfl⟩ := H
        go_wp2
        go_ret2
        exact ⟨_, _, by first | rfl | (simp [errW_none, errW_some] <;> rfl) | (simp [*, errW_none, errW_some] <;> rfl), by (with_reducible repeat (first | apply Kd.R_alloc | apply Kd.R_drewN | apply Kd.R_drew)); exact HO_4.out, by (with_reducible repeat (first | apply Kd.R_alloc | apply Kd.R_drewN | apply Kd.R_drew)); exact HO_5.out, by repeat (first | (with_reducible first | exact HB.out | apply below_alloc | apply pw_below_drewN | apply below_drew1) | exact HB.out)⟩

end Go.Proofs.YtlnbkmlidmgbaaaDoor.P
