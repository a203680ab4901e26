/- Lean functions with the answers of the Go functions of this seat, and for each the proof that the Go code comes to them (made by the session's program over the kit's print). No conditions. -/
import Derived.Test.YtlnbkmlidmgbaaaDoorPx0
import Derived.Test.YtlnbkmlidmgbaaaDoorPx4
import Derived.Test.YtlnbkmlidmgbaaaDoorHStdE
namespace Go.Proofs.YtlnbkmlidmgbaaaDoor.P
open Go.RowKit Go.Proofs.YtlnbkmlidmgbaaaDoorW.PrintWords Go.Proofs.YtlnbkmlidmgbaaaDoorW.PrintLast Go.Proofs.YtlnbkmlidmgbaaaDoorW.PrintMore
attribute [local go_sem] max2_int min2_int max_two min_two max_three min_three max_four min_four   -- for this text's walks alone
set_option linter.unusedVariables false
set_option linter.unusedSimpArgs false

/-! ### mudlarkref09_Parse: function 21 -/
mutual
def mudlarkref09_Parse.j0 : Nat → List Int → Bool → Option ((List (S40)) × Bool)
 | 0, _, _ => none
 | k + 1, x4, x27 => if x27 = true then (some (([] : List (S40)), false)) else (mudlarkref09_Parse.l0 k x4 ([] : List (S40)) 0)
def mudlarkref09_Parse.l0 : Nat → List Int → List (S40) → Int → Option ((List (S40)) × Bool)
 | 0, _, _, _ => none
 | k + 1, x4, x6, x7 => if x7 < (x4.length : Int) then (if 0 ≤ x7 then (if 0 ≤ (wrap64 (x7 + 1)) then (if (wrap64 (x7 + 1)) < (x4.length : Int) then (if x6.length < 8796093022208 then (mudlarkref09_Parse.l0 k x4 (x6 ++ [(⟨rd x4 x7, rd x4 (wrap64 (x7 + 1))⟩ : S40)]) (wrap64 (x7 + 2))) else (none)) else (none)) else (none)) else (none)) else (some (x6, true))
end
def mudlarkref09_Parse.f (k : Nat) (a0 : ByteArray) : Option ((List (S40)) × Bool) := if a0.toList = ([] : List UInt8) then (some (([] : List (S40)), true)) else ((mudlarkref09_numbers.f k a0).bind fun bt115 => (if bt115.2 = true then (if ((bt115.1.length : Int) % 2) = 1 then (mudlarkref09_Parse.j0 k bt115.1 true) else (mudlarkref09_Parse.j0 k bt115.1 (decide ((bt115.1.length : Int) > 2000)))) else (mudlarkref09_Parse.j0 k bt115.1 true)))
theorem mudlarkref09_Parse.mono_l : ∀ k, (∀ y0 y1, LeO (mudlarkref09_Parse.j0 k y0 y1) (mudlarkref09_Parse.j0 (k + 1) y0 y1)) ∧ (∀ y0 y1 y2, LeO (mudlarkref09_Parse.l0 k y0 y1 y2) (mudlarkref09_Parse.l0 (k + 1) y0 y1 y2))
 | 0 => ⟨fun _ _ r h => by simp [mudlarkref09_Parse.j0] at h, fun _ _ _ r h => by simp [mudlarkref09_Parse.l0] at h⟩
 | k + 1 => by
  obtain ⟨ih0, ih1⟩ := mudlarkref09_Parse.mono_l k
  refine ⟨?_, ?_⟩
  ·intro y0 y1
   unfold mudlarkref09_Parse.j0
   repeat' first
   | (with_reducible exact ih0 _ _)
   | (with_reducible exact ih1 _ _ _)
   | (with_reducible exact mudlarkref09_numbers.mono _ _)
   | (with_reducible exact LeO.refl _)
   | (with_reducible exact LeO.none _)
   | (with_reducible refine LeO.ite ?_ ?_)
   | (with_reducible refine LeO.bind ?_ (fun _ => ?_))
   | exact ih0 _ _
   | exact ih1 _ _ _
   | exact mudlarkref09_numbers.mono _ _
   | exact LeO.none _
   | refine LeO.ite ?_ ?_
   | refine LeO.bind ?_ (fun _ => ?_)
  ·intro y0 y1 y2
   unfold mudlarkref09_Parse.l0
   repeat' first
   | (with_reducible exact ih0 _ _)
   | (with_reducible exact ih1 _ _ _)
   | (with_reducible exact mudlarkref09_numbers.mono _ _)
   | (with_reducible exact LeO.refl _)
   | (with_reducible exact LeO.none _)
   | (with_reducible refine LeO.ite ?_ ?_)
   | (with_reducible refine LeO.bind ?_ (fun _ => ?_))
   | exact ih0 _ _
   | exact ih1 _ _ _
   | exact mudlarkref09_numbers.mono _ _
   | exact LeO.none _
   | refine LeO.ite ?_ ?_
   | refine LeO.bind ?_ (fun _ => ?_)
theorem mudlarkref09_Parse.mono : ∀ a0 k, LeO (mudlarkref09_Parse.f k a0) (mudlarkref09_Parse.f (k + 1) a0) := by
 intro a0 k
 obtain ⟨ih0, ih1⟩ := mudlarkref09_Parse.mono_l k
 unfold mudlarkref09_Parse.f
 repeat' first
   | (with_reducible exact ih0 _ _)
   | (with_reducible exact ih1 _ _ _)
   | (with_reducible exact mudlarkref09_numbers.mono _ _)
   | (with_reducible exact LeO.refl _)
   | (with_reducible exact LeO.none _)
   | (with_reducible refine LeO.ite ?_ ?_)
   | (with_reducible refine LeO.bind ?_ (fun _ => ?_))
   | exact ih0 _ _
   | exact ih1 _ _ _
   | exact mudlarkref09_numbers.mono _ _
   | exact LeO.none _
   | refine LeO.ite ?_ ?_
   | refine LeO.bind ?_ (fun _ => ?_)
def mudlarkref09_Parse.T10 : Bool × List (List Nat × List Nat) := (true, [([], []), ([], []), ([], []), ([1, 2], [1, 2]), ([3], [3]), ([], []), ([], []), ([6], [6]), ([5, 7], [5, 7]), ([8], [8]), ([4, 9], [4, 9]), ([10], [10]), ([0, 11], [0, 11]), ([12, 12, 0, 1, 2, 3, 4, 5, 6, 7, 8, 9, 10, 11, 12], [0, 12])])
def mudlarkref09_Parse.B10 : List Nat := [0, 0, 0, 6, 14, 0, 0, 64, 224, 480, 1022, 2046, 4095, 8191]
theorem mudlarkref09_Parse.tab10 : rtab .any (opsOf Tryd.f21 10) = mudlarkref09_Parse.T10 := by kernel_rfl
theorem mudlarkref09_Parse.bits10 : waitsOk mudlarkref09_Parse.T10.2 mudlarkref09_Parse.B10 = true := by kernel_rfl
set_option maxHeartbeats 8000000 in
set_option maxRecDepth 100000 in
theorem mudlarkref09_Parse.calls (k : Nat) (a0 : ByteArray) (r1 : List (S40)) (r2 : Bool) (w : World) (h : mudlarkref09_Parse.f k a0 = some (r1, r2)) (HT_ : Tabs w) :
  Calls Tryd.prog 21 #[.string a0] w fun e w' => ∃ v0_ : Value, e = .returned (.tuple #[v0_, .bool r2]) ∧ Kd.R k40 40 w' w.heap.size (fun _ => True) v0_ r1 ∧ Below w.heap.size w w' := by
 have HT := Aside0.mk HT_
 clear HT_
 have hu40 := Tryd.underlying40
 have HB := Aside0.mk (Below.refl w.heap.size w)
 have H : (if a0.toList = ([] : List UInt8) then (some (([] : List (S40)), true)) else ((mudlarkref09_numbers.f k a0).bind fun bt115 => (if bt115.2 = true then (if ((bt115.1.length : Int) % 2) = 1 then (mudlarkref09_Parse.j0 k bt115.1 true) else (mudlarkref09_Parse.j0 k bt115.1 (decide ((bt115.1.length : Int) > 2000)))) else (mudlarkref09_Parse.j0 k bt115.1 true)))) = some (r1, r2) := h
 clear h
 by_cases c2 : a0.toList = ([] : List UInt8)
 ·rw [if_pos c2] at H
  have c2b0 : (a0.toList == ([] : List UInt8)) = true := beq_iff_eq.mpr c2
  have c2b1 : (a0.toList != ([] : List UInt8)) = false := bne_eq_false_iff_eq.mpr c2
  clear c2
  simp only [Option.some.injEq, Prod.mk.injEq] at H
  obtain ⟨rfl, rfl⟩ := H
  go_enter Tryd.func21, Tryd.ntmps21
  go_wp2
  go_ret2
  exact ⟨_, by first | rfl | (simp [errW_none, errW_some] <;> rfl) | (simp [*, errW_none, errW_some] <;> rfl), by first | exact Kd.R_nil _ _ _ _ _ | exact Kd.N_nil _ _ _ _ _ | exact Kd.V_nil _ _ _ _ _ | exact Kd.Q_nil _ _ _ _ _ | exact Kd.S_nil _ _ _ _ _, by repeat (first | (with_reducible first | exact HB.out | apply below_alloc | apply pw_below_drewN | apply below_drew1) | exact HB.out)⟩
 ·rw [if_neg c2] at H
  have c2b0 : (a0.toList == ([] : List UInt8)) = false := beq_eq_false_iff_ne.mpr c2
  have c2b1 : (a0.toList != ([] : List UInt8)) = true := bne_iff_ne.mpr c2
  replace H := Option.bind_eq_some_iff.mp H
  obtain ⟨⟨t115, t116⟩, A30, H⟩ := H
  replace H : (if t116 = true then (if ((t115.length : Int) % 2) = 1 then (mudlarkref09_Parse.j0 k t115 true) else (mudlarkref09_Parse.j0 k t115 (decide ((t115.length : Int) > 2000)))) else (mudlarkref09_Parse.j0 k t115 true)) = some (r1, r2) := H
  have A3 := Aside0.mk A30
  clear A30
  have HC4 := Aside0.mk H
  clear H
  go_enter Tryd.func21, Tryd.ntmps21
  go_upto_region 4 with (first | ((with_reducible refine gate_callee (f := 30) rfl ?_); refine goesL_ (some 12) rfl rfl Tryd.func30 (by kernel_rfl) rfl #[.string a0] rfl (by (try simp only [List.map_toArray, List.map_cons, List.map_nil]); first | done | rfl | (simp only [List.length_drop, List.length_take]; rfl)) ?_; (with_reducible refine (mudlarkref09_numbers.calls k a0 t115 t116 _ A3.out (HT.out.below (by repeat (first | (with_reducible first | exact HB.out | apply below_alloc | apply pw_below_drewN | apply below_drew1) | exact HB.out)))).mono ?_); rintro e w5 ⟨v117, rfl, ho0, hb⟩; refine ⟨_, rfl, ?_⟩; have n0_ := Aside0.mk (Kd.R_lower ho0 (below_size (by repeat (first | (with_reducible first | exact HB.out | apply below_alloc | apply pw_below_drewN | apply below_drew1) | exact HB.out)))); have n1_ := Aside0.mk (below_step (by repeat (first | (with_reducible first | exact HB.out | apply below_alloc | apply pw_below_drewN | apply below_drew1) | exact HB.out)) hb); clear HB; have HO118 := n0_; have HB := n1_; clear n0_ n1_; (try clear hb); (try clear hb2); (try clear hk); (try clear hi); (try clear ho0)))
  (try simp only [Act.put, List.setIfInBounds_toArray, List.set_cons_zero, List.set_cons_succ])
  go_cut [27] (fun v27 wc => ∃ (kq : Nat) (x27_3 : Bool), v27 = .bool x27_3 ∧ Aside0 (mudlarkref09_Parse.j0 kq t115 x27_3 = some (r1, r2)) ∧ Aside0 (kq ≤ k) ∧ Aside0 (Kd.R (Kd.int .i64) 3 wc w.heap.size (fun _ => True) v117 t115) ∧ Aside0 (Below w.heap.size w wc))
  case first =>
   have H := HC4.out
   clear HC4
   by_cases c6 : t116 = true
   ·subst c6
    have H1 : (if ((t115.length : Int) % 2) = 1 then (mudlarkref09_Parse.j0 k t115 true) else (mudlarkref09_Parse.j0 k t115 (decide ((t115.length : Int) > 2000)))) = some (r1, r2) := by rw [if_pos rfl] at H; exact H
    clear H
    have H := H1
    clear H1
    by_cases c7 : ((t115.length : Int) % 2) = 1
    ·rw [if_pos c7] at H
     have c7b0 : (((t115.length : Int) % 2) == 1) = true := beq_iff_eq.mpr c7
     have c7b1 : (((t115.length : Int) % 2) != 1) = false := bne_eq_false_iff_eq.mpr c7
     clear c7
     (first | rw [c7b0] | (simp only [i64_w, i32_w]; rw [c7b0]) | skip)
     have H' := Aside0.mk H
     clear H
     obtain ⟨Ao8, co8, eo8⟩ := Kd.R_slice HO118.out
     subst eo8
     go_wp2
     go_meet
     case rel => exact ⟨_, (true), (by first | rfl | (simp; done) | (simp [*]; done)), H', ⟨by first | omega | exact Nat.le_refl _⟩, ⟨by (with_reducible repeat (first | apply Kd.R_alloc | apply Kd.R_drewN | apply Kd.R_drew)); exact HO118.out⟩, ⟨by repeat (first | (with_reducible first | exact HB.out | apply below_alloc | apply pw_below_drewN | apply below_drew1) | exact HB.out)⟩⟩
    ·rw [if_neg c7] at H
     have c7b0 : (((t115.length : Int) % 2) == 1) = false := beq_eq_false_iff_ne.mpr c7
     have c7b1 : (((t115.length : Int) % 2) != 1) = true := bne_iff_ne.mpr c7
     (first | rw [c7b0] | (simp only [i64_w, i32_w]; rw [c7b0]) | skip)
     have H' := Aside0.mk H
     clear H
     obtain ⟨Ao9, co9, eo9⟩ := Kd.R_slice HO118.out
     subst eo9
     go_wp2
     go_meet
     case rel => exact ⟨_, (decide ((t115.length : Int) > 2000)), (by first | rfl | (simp; done) | (simp [*]; done)), H', ⟨by first | omega | exact Nat.le_refl _⟩, ⟨by (with_reducible repeat (first | apply Kd.R_alloc | apply Kd.R_drewN | apply Kd.R_drew)); exact HO118.out⟩, ⟨by repeat (first | (with_reducible first | exact HB.out | apply below_alloc | apply pw_below_drewN | apply below_drew1) | exact HB.out)⟩⟩
   ·replace c6 := Bool.eq_false_iff.mpr c6
    subst c6
    have H1 : (mudlarkref09_Parse.j0 k t115 true) = some (r1, r2) := by rw [if_neg (show ¬ (false = true) by decide)] at H; exact H
    clear H
    have H := H1
    clear H1
    have H' := Aside0.mk H
    clear H
    go_wp2
    go_meet
    case rel => exact ⟨_, (true), (by first | rfl | (simp; done) | (simp [*]; done)), H', ⟨by first | omega | exact Nat.le_refl _⟩, ⟨by (with_reducible repeat (first | apply Kd.R_alloc | apply Kd.R_drewN | apply Kd.R_drew)); exact HO118.out⟩, ⟨by repeat (first | (with_reducible first | exact HB.out | apply below_alloc | apply pw_below_drewN | apply below_drew1) | exact HB.out)⟩⟩
  case rest =>
   clear HC4
   try clear c2
   try clear c2b0
   try clear c2b1
   try clear p2
   try clear c3
   try clear c6
   try clear c7
   try clear c7b0
   try clear c7b1
   obtain ⟨kq, x27_3, rfl, HA, HJ3, HO_4, HB⟩ := hcut
   cases kq with
   | zero => exact absurd HA.out (by simp [mudlarkref09_Parse.j0])
   | succ kj3 =>
    have H := HA.out
    clear HA
    simp only [mudlarkref09_Parse.j0] at H
    by_cases c10 : x27_3 = true
    ·subst c10
     have H1 : (some (([] : List (S40)), false)) = some (r1, r2) := by rw [if_pos rfl] at H; exact H
     clear H
     have H := H1
     clear H1
     simp only [Option.some.injEq, Prod.mk.injEq] at H
     obtain ⟨rfl, rfl⟩ := H
     go_wp2
     go_ret2
     exact ⟨_, by first | rfl | (simp [errW_none, errW_some] <;> rfl) | (simp [*, errW_none, errW_some] <;> rfl), by first | exact Kd.R_nil _ _ _ _ _ | exact Kd.N_nil _ _ _ _ _ | exact Kd.V_nil _ _ _ _ _ | exact Kd.Q_nil _ _ _ _ _ | exact Kd.S_nil _ _ _ _ _, by repeat (first | (with_reducible first | exact HB.out | apply below_alloc | apply pw_below_drewN | apply below_drew1) | exact HB.out)⟩
    ·replace c10 := Bool.eq_false_iff.mpr c10
     subst c10
     have H1 : (mudlarkref09_Parse.l0 kj3 t115 ([] : List (S40)) 0) = some (r1, r2) := by rw [if_neg (show ¬ (false = true) by decide)] at H; exact H
     clear H
     have H := H1
     clear H1
     have H' := Aside0.mk H
     clear H
     go_wp2
     go_loopg [6, 7] kj3 (fun kq v6 v7 w' => ∃ (x6_2 : List (S40)) (x7_2 : Int), v7 = .int .i64 x7_2 ∧ Aside0 (mudlarkref09_Parse.l0 kq t115 x6_2 x7_2 = some (r1, r2)) ∧ Aside0 (kq ≤ kj3) ∧ Aside0 (Kd.R (Kd.int .i64) 3 w' w.heap.size (fun _ => True) v117 t115) ∧ Aside0 (Kd.R k40 40 w' w.heap.size (fun _ => True) v6 x6_2) ∧ Aside0 (Below w.heap.size w w'))
     case atStart => exact ⟨(([] : List (S40))), (0), (by first | rfl | (simp; done) | (simp [*]; done)), H', ⟨Nat.le_refl _⟩, ⟨by (with_reducible repeat (first | apply Kd.R_alloc | apply Kd.R_drewN | apply Kd.R_drew)); exact HO_4.out⟩, ⟨by first | exact Kd.R_nil _ _ _ _ _ | exact Kd.N_nil _ _ _ _ _ | exact Kd.V_nil _ _ _ _ _ | exact Kd.Q_nil _ _ _ _ _ | exact Kd.S_nil _ _ _ _ _⟩, ⟨by repeat (first | (with_reducible first | exact HB.out | apply below_alloc | apply pw_below_drewN | apply below_drew1) | exact HB.out)⟩⟩
     case round =>
      clear H'
      try clear c1
      try clear c2
      try clear c2b0
      try clear c2b1
      try clear p2
      try clear c3
      try clear c6
      try clear c7
      try clear c7b0
      try clear c7b1
      try clear c10
      try clear p2
      obtain ⟨x6_2, x7_2, rfl, HA, HK2, HO_4, HO_6, HB⟩ := hrel
      cases gk with
      | zero => exact absurd HA.out (by simp [mudlarkref09_Parse.l0])
      | succ k2 =>
       have H := HA.out
       clear HA
       simp only [mudlarkref09_Parse.l0] at H
       by_cases c11 : x7_2 < (t115.length : Int)
       ·rw [if_pos c11] at H
        have c11b0 : decide (x7_2 < (t115.length : Int)) = true := decide_eq_true c11
        clear c11
        by_cases c12 : 0 ≤ x7_2
        ·rw [if_pos c12] at H
         have c12b0 : decide (0 ≤ x7_2) = true := decide_eq_true c12
         clear c12
         obtain ⟨ji13, hji13⟩ : ∃ j_ : Int, (wrap64 (x7_2 + 1)) = j_ := ⟨_, rfl⟩
         replace H : (if 0 ≤ (ji13) then (if (ji13) < (t115.length : Int) then (if x6_2.length < 8796093022208 then (mudlarkref09_Parse.l0 k2 t115 (x6_2 ++ [(⟨rd t115 x7_2, rd t115 (ji13)⟩ : S40)]) (wrap64 (x7_2 + 2))) else (none)) else (none)) else (none)) = some (r1, r2) := by first | (rw [hji13] at H; exact H) | (simp only [hji13] at H ⊢; exact H)
         have hji13w : (IntKind.i64.wrap (x7_2 + 1)) = ji13 := (i64_w _).trans hji13
         by_cases c14 : 0 ≤ (ji13)
         ·rw [if_pos c14] at H
          have c14b0 : decide (0 ≤ (ji13)) = true := decide_eq_true c14
          clear c14
          by_cases c15 : (ji13) < (t115.length : Int)
          ·rw [if_pos c15] at H
           have c15b0 : decide ((ji13) < (t115.length : Int)) = true := decide_eq_true c15
           clear c15
           by_cases c16 : x6_2.length < 8796093022208
           ·rw [if_pos c16] at H
            have LMc16 := Aside0.mk c16
            clear c16
            obtain ⟨y121, hy121⟩ : ∃ y_ : List (S40), y_ = (x6_2 ++ [(⟨rd t115 x7_2, rd t115 (ji13)⟩ : S40)]) := ⟨_, rfl⟩
            replace H : (mudlarkref09_Parse.l0 k2 t115 y121 (wrap64 (x7_2 + 2))) = some (r1, r2) := by first | (rw [hy121]; with_reducible exact H) | (have H2_ := (Option.bind_some _ _).symm.trans H; rw [hy121]; with_reducible exact H2_) | (have H2_ := (Option.bind_some _ _).symm.trans H; with_reducible exact H2_) | with_reducible exact H | (rw [hy121]; exact H) | exact H
            have Ny121 := Aside0.mk hy121
            clear hy121
            have H' := Aside0.mk H
            clear H
            obtain ⟨Ao17, co17, eo17⟩ := Kd.R_slice HO_4.out
            subst eo17
            try go_wp2
            have n0_ := Aside0.mk (Kd.R_drew HO_4.out)
            have n1_ := Aside0.mk (Kd.R_drew HO_6.out)
            have n2_ := Aside0.mk (below_drew1 HB.out)
            clear HO_4
            clear HO_6
            clear HB
            have HO_4 := n0_
            have HO_6 := n1_
            have HB := n2_
            clear n0_ n1_ n2_
            have p119 : 0 ≤ (x7_2 : Int) := of_decide_eq_true (by first | (with_reducible assumption) | assumption)
            have q119 : x7_2 < (t115.length : Int) := of_decide_eq_true (by first | (with_reducible assumption) | assumption)
            obtain ⟨ad119, e119, hx119_0⟩ := Kd.at_int (Kd.R_reads' HO_4.out).2.2 x7_2 p119 q119
            cases e119
            replace p119 := eq_true p119
            replace q119 := eq_true q119
            have p120 : 0 ≤ ((ji13) : Int) := of_decide_eq_true (by first | (with_reducible assumption) | assumption)
            have q120 : (ji13) < (t115.length : Int) := of_decide_eq_true (by first | (with_reducible assumption) | assumption)
            obtain ⟨ad120, e120, hx120_0⟩ := Kd.at_int (Kd.R_reads' HO_4.out).2.2 (ji13) p120 q120
            obtain rfl : ad119 = ad120 := (by injection e120)
            replace p120 := eq_true p120
            replace q120 := eq_true q120
            refine start_ (n := 14) (S := fun w' => w'.cell? (ad119.add (x7_2).toNat) = some (.int .i64 (rd t115 x7_2)) ∧ w'.cell? (ad119.add ((ji13)).toNat) = some (.int .i64 (rd t115 (ji13)))) (ds := [11, 12]) #[false, false, false, false, false, false, false, false, false, false, false, false, false, false] (by kernel_rfl) rfl rfl ⟨hx119_0, hx120_0⟩ (fun hHeld => ?_); refine with_tabW mudlarkref09_Parse.tab10 mudlarkref09_Parse.bits10 (fun HT_ HW_ => ?_)
            generalize wr.drew = w18 at HO_4 HO_6 HB hx119_0 hx120_0 hHeld ⊢
            refine pure_ (i := 0) (N := some 34) (v := ?_) (a' := ?_) #[true, false, false, false, false, false, false, false, false, false, false, false, false, false] rfl rfl (any_of HT_.out (by kernel_rfl)) (fun _ _ _ h => h) (Or.inl ⟨by rfl, ?_⟩) ?_ ?_
            rotate_left
            ·intro w'
             go_simp
             with_reducible rfl
            rotate_left
            ·simp only [Act.put, List.setIfInBounds_toArray, List.set_cons_zero, List.set_cons_succ, i64_w, i32_w]
             rfl
            refine pure_ (i := 1) (N := some 35) (v := ?_) (a' := ?_) #[true, true, false, false, false, false, false, false, false, false, false, false, false, false] rfl rfl (any_of HT_.out (by kernel_rfl)) (fun _ _ _ h => h) (Or.inl ⟨by rfl, ?_⟩) ?_ ?_
            rotate_left
            ·intro w'
             go_simp
             with_reducible rfl
            rotate_left
            ·simp only [Act.put, List.setIfInBounds_toArray, List.set_cons_zero, List.set_cons_succ, i64_w, i32_w]
             rfl
            refine pure_ (i := 2) (N := some 36) (v := ?_) (a' := ?_) #[true, true, true, false, false, false, false, false, false, false, false, false, false, false] rfl rfl (any_of HT_.out (by kernel_rfl)) (fun _ _ _ h => h) (Or.inl ⟨by rfl, ?_⟩) ?_ ?_
            rotate_left
            ·intro w'
             go_simp
             with_reducible rfl
            rotate_left
            ·simp only [Act.put, List.setIfInBounds_toArray, List.set_cons_zero, List.set_cons_succ, i64_w, i32_w]
             rfl
            refine pure_ (i := 3) (N := some 37) (v := ?_) (a' := ?_) #[true, true, true, true, false, false, false, false, false, false, false, false, false, false] rfl rfl (any_of HT_.out (by kernel_rfl)) (fun _ _ _ h => h) (Or.inl ⟨by rfl, ?_⟩) ?_ ?_
            rotate_left
            ·intro w'
             go_simp
             with_reducible rfl
            rotate_left
            ·simp only [Act.put, List.setIfInBounds_toArray, List.set_cons_zero, List.set_cons_succ, i64_w, i32_w]
             rfl
            refine pure_ (i := 5) (N := some 39) (v := ?_) (a' := ?_) #[true, true, true, true, false, true, false, false, false, false, false, false, false, false] rfl rfl (any_of HT_.out (by kernel_rfl)) (fun _ _ _ h => h) (Or.inl ⟨by rfl, ?_⟩) ?_ ?_
            rotate_left
            ·intro w'
             go_simp
             with_reducible rfl
            rotate_left
            ·simp only [Act.put, List.setIfInBounds_toArray, List.set_cons_zero, List.set_cons_succ, i64_w, i32_w]
             rfl
            refine pure_ (i := 6) (N := some 40) (v := ?_) (a' := ?_) #[true, true, true, true, false, true, true, false, false, false, false, false, false, false] rfl rfl (any_of HT_.out (by kernel_rfl)) (fun _ _ _ h => h) (Or.inl ⟨by rfl, ?_⟩) ?_ ?_
            rotate_left
            ·intro w'
             go_simp
             with_reducible rfl
            rotate_left
            ·simp only [Act.put, List.setIfInBounds_toArray, List.set_cons_zero, List.set_cons_succ, i64_w, i32_w]
             rfl
            refine pure_ (i := 7) (N := some 41) (v := ?_) (a' := ?_) #[true, true, true, true, false, true, true, true, false, false, false, false, false, false] rfl rfl (any_of HT_.out (by kernel_rfl)) (fun _ _ _ h => h) (Or.inl ⟨by rfl, ?_⟩) ?_ ?_
            rotate_left
            ·intro w'
             go_simp
             with_reducible rfl
            rotate_left
            ·simp only [Act.put, List.setIfInBounds_toArray, List.set_cons_zero, List.set_cons_succ, i64_w, i32_w]
             rfl
            refine pure_ (i := 8) (N := some 42) (v := ?_) (a' := ?_) #[true, true, true, true, false, true, true, true, true, false, false, false, false, false] rfl rfl (any_of HT_.out (by kernel_rfl)) (fun _ _ _ h => h) (Or.inl ⟨by rfl, ?_⟩) ?_ ?_
            rotate_left
            ·intro w'
             go_simp
             with_reducible rfl
            rotate_left
            ·simp only [Act.put, List.setIfInBounds_toArray, List.set_cons_zero, List.set_cons_succ, i64_w, i32_w]
             rfl
            refine take_ (i := 4) (N := some 38) (v := ?_) (a' := ?_) #[true, true, true, true, true, true, true, true, true, false, false, false, false, false] rfl rfl (take_ofW HT_.out HW_.out (by kernel_rfl)) (fun _ _ _ h => h) (Or.inl ⟨by rfl, ?_⟩) hHeld ?_ ?_
            rotate_left
            ·rintro w' ⟨s0, s1⟩
             go_simp
             with_reducible rfl
            rotate_left
            ·simp only [Act.put, List.setIfInBounds_toArray, List.set_cons_zero, List.set_cons_succ, i64_w, i32_w]
             rfl
            refine take_ (i := 9) (N := some 43) (v := ?_) (a' := ?_) #[true, true, true, true, true, true, true, true, true, true, false, false, false, false] rfl rfl (take_ofW HT_.out HW_.out (by kernel_rfl)) (fun _ _ _ h => h) (Or.inl ⟨by rfl, ?_⟩) hHeld ?_ ?_
            rotate_left
            ·rintro w' ⟨s0, s1⟩
             go_simp
             with_reducible rfl
            rotate_left
            ·simp only [Act.put, List.setIfInBounds_toArray, List.set_cons_zero, List.set_cons_succ, i64_w, i32_w]
             rfl
            refine pure_ (i := 10) (N := some 44) (v := ?_) (a' := ?_) #[true, true, true, true, true, true, true, true, true, true, true, false, false, false] rfl rfl (any_of HT_.out (by kernel_rfl)) (fun _ _ _ h => h) (Or.inl ⟨by rfl, ?_⟩) ?_ ?_
            rotate_left
            ·intro w'
             go_simp
             with_reducible rfl
            rotate_left
            ·simp only [Act.put, List.setIfInBounds_toArray, List.set_cons_zero, List.set_cons_succ, i64_w, i32_w]
             rfl
            refine last_ (i := 11) (N := some 45) #[true, true, true, true, true, true, true, true, true, true, true, true, false, false] rfl rfl (one_of HT_.out (by kernel_rfl)) (by decide) (fun K hK => ?_)
            refine value_ (w1 := ?_) (v := ?_) (by rfl) rfl ?_ ?_
            rotate_left 2
            ·go_simp
             constructor
             ·rfl
             ·rfl
            refine hK.out _ _ ?_
            clear hK K
            refine norm_ (a' := ?_) ?_ ?_
            rotate_left
            ·show Act.put _ (some 45) _ = _
             simp only [Act.put, List.setIfInBounds_toArray, List.set_cons_zero, List.set_cons_succ, i64_w, i32_w]
             rfl
            refine last_ (i := 12) (N := some 46) #[true, true, true, true, true, true, true, true, true, true, true, true, true, false] rfl rfl (one_of HT_.out (by kernel_rfl)) (by decide) (fun K hK => ?_)
            refine Kd.R_append_step k40 (w0 := w) w.heap.size (by rfl) (.tmp 34) (.tmp 45) 23 40 (.agg #[(.int .i64 0), (.int .i64 0)]) 16 rfl Tryd.underlying23 info40 rfl (by decide) (by omega) u6 x6_2 (⟨rd t115 x7_2, rd t115 (ji13)⟩ : S40) [.int .i64 (rd t115 x7_2), .int .i64 (rd t115 (ji13))] (fun _ => True) (fun _ => False) rfl rfl ?aP (fun _ hk => hk.elim) ?aF ?aO ?aB ?aS ?aL ?_
            (case aP => exact k40_mkM _ _ _ (⟨rd t115 x7_2, rd t115 (ji13)⟩ : S40))
            (case aB => exact (by repeat (first | (with_reducible first | exact HB.out | apply below_alloc | apply pw_below_drewN | apply below_drew1) | exact HB.out)))
            (case aF => exact (fun _ _ => trivial))
            (case aO => exact (by (with_reducible repeat (first | apply Kd.R_alloc | apply Kd.R_drewN | apply Kd.R_drew)); exact HO_6.out))
            (case aS => exact (below_size (by repeat (first | (with_reducible first | exact HB.out | apply below_alloc | apply pw_below_drewN | apply below_drew1) | exact HB.out))))
            (case aL => have := LMc16.out; omega)
            intro v122 w19 ho hb hg hat
            rw [← Ny121.out] at ho
            have n0_ := Aside0.mk (Kd.R_over' (by (with_reducible repeat (first | apply Kd.R_alloc | apply Kd.R_drewN | apply Kd.R_drew)); exact HO_4.out) (Kd.R_typed (by (with_reducible repeat (first | apply Kd.R_alloc | apply Kd.R_drewN | apply Kd.R_drew)); exact HO_6.out)) (by decide) hg)
            have n1_ := Aside0.mk (hb)
            have n2_ := Aside0.mk (ho)
            clear HO_4
            clear HB
            clear HO_6
            have HO_4 := n0_
            have HB := n1_
            have HO123 := n2_
            clear n0_ n1_ n2_
            clear ho hb hg hat
            refine hK.out _ _ ?_
            clear hK K
            refine norm_ (a' := ?_) ?_ ?_
            rotate_left
            ·show Act.put _ (some 46) _ = _
             simp only [Act.put, List.setIfInBounds_toArray, List.set_cons_zero, List.set_cons_succ, i64_w, i32_w]
             rfl
            refine pure_ (i := 13) (N := some 6) (v := ?_) (a' := ?_) #[true, true, true, true, true, true, true, true, true, true, true, true, true, true] rfl rfl (any_of HT_.out (by kernel_rfl)) (fun _ _ _ h => h) (Or.inl ⟨by rfl, ?_⟩) ?_ ?_
            rotate_left
            ·intro w'
             go_simp
             with_reducible rfl
            rotate_left
            ·simp only [Act.put, List.setIfInBounds_toArray, List.set_cons_zero, List.set_cons_succ, i64_w, i32_w]
             rfl
            refine done_ (done_of HT_.out (by kernel_rfl)) ?_
            try go_wp2
            go_roundg k2
            case measure => have := HJ3.out; have := HK2.out; omega
            case rel => exact ⟨(y121), (wrap64 (x7_2 + 2)), (by first | rfl | (simp; done) | (simp [*]; done)), H', ⟨by have := HJ3.out; have := HK2.out; omega⟩, ⟨by (with_reducible repeat (first | apply Kd.R_alloc | apply Kd.R_drewN | apply Kd.R_drew)); exact HO_4.out⟩, ⟨by (with_reducible repeat (first | apply Kd.R_alloc | apply Kd.R_drewN | apply Kd.R_drew)); exact HO123.out⟩, ⟨by repeat (first | (with_reducible first | exact HB.out | apply below_alloc | apply pw_below_drewN | apply below_drew1) | exact HB.out)⟩⟩
           ·rw [if_neg c16] at H
            exact absurd H (by simp)
          ·rw [if_neg c15] at H
           exact absurd H (by simp)
         ·rw [if_neg c14] at H
          exact absurd H (by simp)
        ·rw [if_neg c12] at H
         exact absurd H (by simp)
       ·rw [if_neg c11] at H
        have c11b0 : decide (x7_2 < (t115.length : Int)) = false := decide_eq_false c11
        clear c11
        simp only [Option.some.injEq, Prod.mk.injEq] at H
        obtain ⟨rfl, rfl⟩ := H
        obtain ⟨Ao20, co20, eo20⟩ := Kd.R_slice HO_4.out
        subst eo20
        go_wp2
        go_ret2
        exact ⟨_, by first | rfl | (simp [errW_none, errW_some] <;> rfl) | (simp [*, errW_none, errW_some] <;> rfl), by (with_reducible repeat (first | apply Kd.R_alloc | apply Kd.R_drewN | apply Kd.R_drew)); exact HO_6.out, by repeat (first | (with_reducible first | exact HB.out | apply below_alloc | apply pw_below_drewN | apply below_drew1) | exact HB.out)⟩

/-! ### mudlarklaw09_Parts: function 9 -/
mutual
def mudlarklaw09_Parts.l0 : Nat → List Int → List (S40) → Int → Int → Int → Option ((List (S40)) × Int × Int)
 | 0, _, _, _, _, _ => none
 | k + 1, x0, x5, x6, x7, x8 => if (wrap64 (x8 + 1)) < (x0.length : Int) then (mudlarklaw09_Parts.j1 k x0 x5 x6 x7 x8 (decide (x8 < 16))) else (mudlarklaw09_Parts.j1 k x0 x5 x6 x7 x8 false)
def mudlarklaw09_Parts.j1 : Nat → List Int → List (S40) → Int → Int → Int → Bool → Option ((List (S40)) × Int × Int)
 | 0, _, _, _, _, _, _ => none
 | k + 1, x0, x5, x6, x7, x8, x18 => if x18 = true then (if 0 ≤ x8 then (if x8 < (x0.length : Int) then (if 0 ≤ (wrap64 (x8 + 1)) then (if (wrap64 (x8 + 1)) < (x0.length : Int) then (if (rd x0 x8) > 250 then (if x5.length < 8796093022208 then (mudlarklaw09_Parts.l0 k x0 (x5 ++ [(⟨wrap64 ((wrap64 (x6 + (wrap64 (Int.tmod (rd x0 x8) 40)))) - 50), wrap64 (1 + (wrap64 (Int.tmod (rd x0 (wrap64 (x8 + 1))) 30)))⟩ : S40)]) (wrap64 ((wrap64 ((wrap64 (x6 + (wrap64 (Int.tmod (rd x0 x8) 40)))) - 50)) + (wrap64 (1 + (wrap64 (Int.tmod (rd x0 (wrap64 (x8 + 1))) 30)))))) (wrap64 (x7 + (wrap64 (1 + (wrap64 (Int.tmod (rd x0 (wrap64 (x8 + 1))) 30)))))) (wrap64 (x8 + 2))) else (none)) else (if x5.length < 8796093022208 then (mudlarklaw09_Parts.l0 k x0 (x5 ++ [(⟨wrap64 (x6 + (wrap64 (Int.tmod (rd x0 x8) 40))), wrap64 (1 + (wrap64 (Int.tmod (rd x0 (wrap64 (x8 + 1))) 30)))⟩ : S40)]) (wrap64 ((wrap64 (x6 + (wrap64 (Int.tmod (rd x0 x8) 40)))) + (wrap64 (1 + (wrap64 (Int.tmod (rd x0 (wrap64 (x8 + 1))) 30)))))) (wrap64 (x7 + (wrap64 (1 + (wrap64 (Int.tmod (rd x0 (wrap64 (x8 + 1))) 30)))))) (wrap64 (x8 + 2))) else (none))) else (none)) else (none)) else (none)) else (none)) else (some (x5, x7, x6))
end
def mudlarklaw09_Parts.f (k : Nat) (l0 : List Int) : Option ((List (S40)) × Int × Int) := mudlarklaw09_Parts.l0 k l0 ([] : List (S40)) 0 0 0
theorem mudlarklaw09_Parts.mono_l : ∀ k, (∀ y0 y1 y2 y3 y4, LeO (mudlarklaw09_Parts.l0 k y0 y1 y2 y3 y4) (mudlarklaw09_Parts.l0 (k + 1) y0 y1 y2 y3 y4)) ∧ (∀ y0 y1 y2 y3 y4 y5, LeO (mudlarklaw09_Parts.j1 k y0 y1 y2 y3 y4 y5) (mudlarklaw09_Parts.j1 (k + 1) y0 y1 y2 y3 y4 y5))
 | 0 => ⟨fun _ _ _ _ _ r h => by simp [mudlarklaw09_Parts.l0] at h, fun _ _ _ _ _ _ r h => by simp [mudlarklaw09_Parts.j1] at h⟩
 | k + 1 => by
  obtain ⟨ih0, ih1⟩ := mudlarklaw09_Parts.mono_l k
  refine ⟨?_, ?_⟩
  ·intro y0 y1 y2 y3 y4
   unfold mudlarklaw09_Parts.l0
   repeat' first
   | (with_reducible exact ih0 _ _ _ _ _)
   | (with_reducible exact ih1 _ _ _ _ _ _)
   | (with_reducible exact LeO.refl _)
   | (with_reducible exact LeO.none _)
   | (with_reducible refine LeO.ite ?_ ?_)
   | (with_reducible refine LeO.bind ?_ (fun _ => ?_))
   | exact ih0 _ _ _ _ _
   | exact ih1 _ _ _ _ _ _
   | exact LeO.none _
   | refine LeO.ite ?_ ?_
   | refine LeO.bind ?_ (fun _ => ?_)
  ·intro y0 y1 y2 y3 y4 y5
   unfold mudlarklaw09_Parts.j1
   repeat' first
   | (with_reducible exact ih0 _ _ _ _ _)
   | (with_reducible exact ih1 _ _ _ _ _ _)
   | (with_reducible exact LeO.refl _)
   | (with_reducible exact LeO.none _)
   | (with_reducible refine LeO.ite ?_ ?_)
   | (with_reducible refine LeO.bind ?_ (fun _ => ?_))
   | exact ih0 _ _ _ _ _
   | exact ih1 _ _ _ _ _ _
   | exact LeO.none _
   | refine LeO.ite ?_ ?_
   | refine LeO.bind ?_ (fun _ => ?_)
theorem mudlarklaw09_Parts.mono : ∀ a0 k, LeO (mudlarklaw09_Parts.f k a0) (mudlarklaw09_Parts.f (k + 1) a0) := by
 intro a0 k
 obtain ⟨ih0, ih1⟩ := mudlarklaw09_Parts.mono_l k
 unfold mudlarklaw09_Parts.f
 repeat' first
   | (with_reducible exact ih0 _ _ _ _ _)
   | (with_reducible exact ih1 _ _ _ _ _ _)
   | (with_reducible exact LeO.refl _)
   | (with_reducible exact LeO.none _)
   | (with_reducible refine LeO.ite ?_ ?_)
   | (with_reducible refine LeO.bind ?_ (fun _ => ?_))
   | exact ih0 _ _ _ _ _
   | exact ih1 _ _ _ _ _ _
   | exact LeO.none _
   | refine LeO.ite ?_ ?_
   | refine LeO.bind ?_ (fun _ => ?_)
set_option maxHeartbeats 8000000 in
set_option maxRecDepth 100000 in
theorem mudlarklaw09_Parts.calls (k : Nat) (A0 : Option Addr) (c0 : Nat) (l0 : List Int) (r1 : List (S40)) (r2 : Int) (r3 : Int) (w : World) (hr0 : Kd.C (Kd.int .u8) w A0 l0.length l0) (hc0 : l0.length ≤ c0) (h : mudlarklaw09_Parts.f k l0 = some (r1, r2, r3)) :
  Calls Tryd.prog 9 #[.slice A0 l0.length c0] w fun e w' => ∃ v0_ : Value, e = .returned (.tuple #[v0_, .int .i64 r2, .int .i64 r3]) ∧ Kd.R k40 40 w' w.heap.size (fun _ => True) v0_ r1 ∧ Below w.heap.size w w' := by
 have hu40 := Tryd.underlying40
 have HR0 := Aside0.mk hr0
 have HC0 := Aside0.mk hc0
 clear hr0 hc0
 have HB := Aside0.mk (Below.refl w.heap.size w)
 have H : (mudlarklaw09_Parts.l0 k l0 ([] : List (S40)) 0 0 0) = some (r1, r2, r3) := h
 clear h
 have H' := Aside0.mk H
 clear H
 go_enter Tryd.func9, Tryd.ntmps9
 go_wp2
 go_loopg [5, 6, 7, 8] k (fun kq v5 v6 v7 v8 w' => ∃ (x5_1 : List (S40)) (x6_1 : Int) (x7_1 : Int) (x8_1 : Int), v6 = .int .i64 x6_1 ∧ v7 = .int .i64 x7_1 ∧ v8 = .int .i64 x8_1 ∧ Aside0 (mudlarklaw09_Parts.l0 kq l0 x5_1 x6_1 x7_1 x8_1 = some (r1, r2, r3)) ∧ Aside0 (kq ≤ k) ∧ Aside0 (Kd.R k40 40 w' w.heap.size (fun _ => True) v5 x5_1) ∧ Aside0 (Below w.heap.size w w'))
 case atStart => exact ⟨(([] : List (S40))), (0), (0), (0), (by first | rfl | (simp; done) | (simp [*]; done)), (by first | rfl | (simp; done) | (simp [*]; done)), (by first | rfl | (simp; done) | (simp [*]; done)), H', ⟨Nat.le_refl _⟩, ⟨by first | exact Kd.R_nil _ _ _ _ _ | exact Kd.N_nil _ _ _ _ _ | exact Kd.V_nil _ _ _ _ _ | exact Kd.Q_nil _ _ _ _ _ | exact Kd.S_nil _ _ _ _ _⟩, ⟨by repeat (first | (with_reducible first | exact HB.out | apply below_alloc | apply pw_below_drewN | apply below_drew1) | exact HB.out)⟩⟩
 case round =>
  clear H'
  obtain ⟨x5_1, x6_1, x7_1, x8_1, rfl, rfl, rfl, HA, HK1, HO_5, HB⟩ := hrel
  cases gk with
  | zero => exact absurd HA.out (by simp [mudlarklaw09_Parts.l0])
  | succ k1 =>
   have H := HA.out
   clear HA
   simp only [mudlarklaw09_Parts.l0] at H
   have HC2 := Aside0.mk H
   clear H
   go_upto_region 5 with (fail)
   go_cut [18] (fun v18 wc => ∃ (kq : Nat) (x18_1 : Bool), v18 = .bool x18_1 ∧ Aside0 (mudlarklaw09_Parts.j1 kq l0 x5_1 x6_1 x7_1 x8_1 x18_1 = some (r1, r2, r3)) ∧ Aside0 (kq ≤ k1) ∧ Aside0 (Kd.R k40 40 wc w.heap.size (fun _ => True) u5 x5_1) ∧ Aside0 (Below w.heap.size w wc))
   case first =>
    have H := HC2.out
    clear HC2
    by_cases c3 : (wrap64 (x8_1 + 1)) < (l0.length : Int)
    ·rw [if_pos c3] at H
     have c3b0 : decide ((wrap64 (x8_1 + 1)) < (l0.length : Int)) = true := decide_eq_true c3
     clear c3
     (first | rw [c3b0] | (simp only [i64_w, i32_w]; rw [c3b0]) | skip)
     have H' := Aside0.mk H
     clear H
     go_wp2
     go_meet
     case rel => exact ⟨_, (decide (x8_1 < 16)), (by first | rfl | (simp; done) | (simp [*]; done)), H', ⟨by have := HK1.out; first | omega | exact Nat.le_refl _⟩, ⟨by (with_reducible repeat (first | apply Kd.R_alloc | apply Kd.R_drewN | apply Kd.R_drew)); exact HO_5.out⟩, ⟨by repeat (first | (with_reducible first | exact HB.out | apply below_alloc | apply pw_below_drewN | apply below_drew1) | exact HB.out)⟩⟩
    ·rw [if_neg c3] at H
     have c3b0 : decide ((wrap64 (x8_1 + 1)) < (l0.length : Int)) = false := decide_eq_false c3
     clear c3
     (first | rw [c3b0] | (simp only [i64_w, i32_w]; rw [c3b0]) | skip)
     have H' := Aside0.mk H
     clear H
     go_wp2
     go_meet
     case rel => exact ⟨_, (false), (by first | rfl | (simp; done) | (simp [*]; done)), H', ⟨by have := HK1.out; first | omega | exact Nat.le_refl _⟩, ⟨by (with_reducible repeat (first | apply Kd.R_alloc | apply Kd.R_drewN | apply Kd.R_drew)); exact HO_5.out⟩, ⟨by repeat (first | (with_reducible first | exact HB.out | apply below_alloc | apply pw_below_drewN | apply below_drew1) | exact HB.out)⟩⟩
   case rest =>
    clear HC2
    try clear p2
    try clear c3
    try clear c3b0
    obtain ⟨kq, x18_1, rfl, HA, HJ1, HO_5, HB⟩ := hcut
    cases kq with
    | zero => exact absurd HA.out (by simp [mudlarklaw09_Parts.j1])
    | succ kj1 =>
     have H := HA.out
     clear HA
     simp only [mudlarklaw09_Parts.j1] at H
     by_cases c4 : x18_1 = true
     ·subst c4
      have H1 : (if 0 ≤ x8_1 then (if x8_1 < (l0.length : Int) then (if 0 ≤ (wrap64 (x8_1 + 1)) then (if (wrap64 (x8_1 + 1)) < (l0.length : Int) then (if (rd l0 x8_1) > 250 then (if x5_1.length < 8796093022208 then (mudlarklaw09_Parts.l0 kj1 l0 (x5_1 ++ [(⟨wrap64 ((wrap64 (x6_1 + (wrap64 (Int.tmod (rd l0 x8_1) 40)))) - 50), wrap64 (1 + (wrap64 (Int.tmod (rd l0 (wrap64 (x8_1 + 1))) 30)))⟩ : S40)]) (wrap64 ((wrap64 ((wrap64 (x6_1 + (wrap64 (Int.tmod (rd l0 x8_1) 40)))) - 50)) + (wrap64 (1 + (wrap64 (Int.tmod (rd l0 (wrap64 (x8_1 + 1))) 30)))))) (wrap64 (x7_1 + (wrap64 (1 + (wrap64 (Int.tmod (rd l0 (wrap64 (x8_1 + 1))) 30)))))) (wrap64 (x8_1 + 2))) else (none)) else (if x5_1.length < 8796093022208 then (mudlarklaw09_Parts.l0 kj1 l0 (x5_1 ++ [(⟨wrap64 (x6_1 + (wrap64 (Int.tmod (rd l0 x8_1) 40))), wrap64 (1 + (wrap64 (Int.tmod (rd l0 (wrap64 (x8_1 + 1))) 30)))⟩ : S40)]) (wrap64 ((wrap64 (x6_1 + (wrap64 (Int.tmod (rd l0 x8_1) 40)))) + (wrap64 (1 + (wrap64 (Int.tmod (rd l0 (wrap64 (x8_1 + 1))) 30)))))) (wrap64 (x7_1 + (wrap64 (1 + (wrap64 (Int.tmod (rd l0 (wrap64 (x8_1 + 1))) 30)))))) (wrap64 (x8_1 + 2))) else (none))) else (none)) else (none)) else (none)) else (none)) = some (r1, r2, r3) := by rw [if_pos rfl] at H; exact H
      clear H
      have H := H1
      clear H1
      by_cases c5 : 0 ≤ x8_1
      ·rw [if_pos c5] at H
       have c5b0 : decide (0 ≤ x8_1) = true := decide_eq_true c5
       clear c5
       by_cases c6 : x8_1 < (l0.length : Int)
       ·rw [if_pos c6] at H
        have c6b0 : decide (x8_1 < (l0.length : Int)) = true := decide_eq_true c6
        clear c6
        obtain ⟨ji7, hji7⟩ : ∃ j_ : Int, (wrap64 (x8_1 + 1)) = j_ := ⟨_, rfl⟩
        replace H : (if 0 ≤ (ji7) then (if (ji7) < (l0.length : Int) then (if (rd l0 x8_1) > 250 then (if x5_1.length < 8796093022208 then (mudlarklaw09_Parts.l0 kj1 l0 (x5_1 ++ [(⟨wrap64 ((wrap64 (x6_1 + (wrap64 (Int.tmod (rd l0 x8_1) 40)))) - 50), wrap64 (1 + (wrap64 (Int.tmod (rd l0 (ji7)) 30)))⟩ : S40)]) (wrap64 ((wrap64 ((wrap64 (x6_1 + (wrap64 (Int.tmod (rd l0 x8_1) 40)))) - 50)) + (wrap64 (1 + (wrap64 (Int.tmod (rd l0 (ji7)) 30)))))) (wrap64 (x7_1 + (wrap64 (1 + (wrap64 (Int.tmod (rd l0 (ji7)) 30)))))) (wrap64 (x8_1 + 2))) else (none)) else (if x5_1.length < 8796093022208 then (mudlarklaw09_Parts.l0 kj1 l0 (x5_1 ++ [(⟨wrap64 (x6_1 + (wrap64 (Int.tmod (rd l0 x8_1) 40))), wrap64 (1 + (wrap64 (Int.tmod (rd l0 (ji7)) 30)))⟩ : S40)]) (wrap64 ((wrap64 (x6_1 + (wrap64 (Int.tmod (rd l0 x8_1) 40)))) + (wrap64 (1 + (wrap64 (Int.tmod (rd l0 (ji7)) 30)))))) (wrap64 (x7_1 + (wrap64 (1 + (wrap64 (Int.tmod (rd l0 (ji7)) 30)))))) (wrap64 (x8_1 + 2))) else (none))) else (none)) else (none)) = some (r1, r2, r3) := by first | (rw [hji7] at H; exact H) | (simp only [hji7] at H ⊢; exact H)
        have hji7w : (IntKind.i64.wrap (x8_1 + 1)) = ji7 := (i64_w _).trans hji7
        by_cases c8 : 0 ≤ (ji7)
        ·rw [if_pos c8] at H
         have c8b0 : decide (0 ≤ (ji7)) = true := decide_eq_true c8
         clear c8
         by_cases c9 : (ji7) < (l0.length : Int)
         ·rw [if_pos c9] at H
          have c9b0 : decide ((ji7) < (l0.length : Int)) = true := decide_eq_true c9
          clear c9
          by_cases c10 : (rd l0 x8_1) > 250
          ·rw [if_pos c10] at H
           have c10b0 : decide (250 < (rd l0 x8_1)) = true := decide_eq_true c10
           clear c10
           by_cases c11 : x5_1.length < 8796093022208
           ·rw [if_pos c11] at H
            have LMc11 := Aside0.mk c11
            clear c11
            obtain ⟨y128, hy128⟩ : ∃ y_ : List (S40), y_ = (x5_1 ++ [(⟨wrap64 ((wrap64 (x6_1 + (wrap64 (Int.tmod (rd l0 x8_1) 40)))) - 50), wrap64 (1 + (wrap64 (Int.tmod (rd l0 (ji7)) 30)))⟩ : S40)]) := ⟨_, rfl⟩
            replace H : (mudlarklaw09_Parts.l0 kj1 l0 y128 (wrap64 ((wrap64 ((wrap64 (x6_1 + (wrap64 (Int.tmod (rd l0 x8_1) 40)))) - 50)) + (wrap64 (1 + (wrap64 (Int.tmod (rd l0 (ji7)) 30)))))) (wrap64 (x7_1 + (wrap64 (1 + (wrap64 (Int.tmod (rd l0 (ji7)) 30)))))) (wrap64 (x8_1 + 2))) = some (r1, r2, r3) := by first | (rw [hy128]; with_reducible exact H) | (have H2_ := (Option.bind_some _ _).symm.trans H; rw [hy128]; with_reducible exact H2_) | (have H2_ := (Option.bind_some _ _).symm.trans H; with_reducible exact H2_) | with_reducible exact H | (rw [hy128]; exact H) | exact H
            have Ny128 := Aside0.mk hy128
            clear hy128
            have H' := Aside0.mk H
            clear H
            have p124 : 0 ≤ (x8_1 : Int) := of_decide_eq_true (by first | (with_reducible assumption) | assumption)
            have q124 : x8_1 < (l0.length : Int) := of_decide_eq_true (by first | (with_reducible assumption) | assumption)
            obtain ⟨ad124, e124, hx124_0⟩ := Kd.at_int HR0.out x8_1 p124 q124
            cases e124
            replace hx124_0 := (HB.out.cell (World.block_lt_of_cell? w _ hx124_0)).trans hx124_0
            replace p124 := eq_true p124
            replace q124 := eq_true q124
            have p125 : 0 ≤ ((ji7) : Int) := of_decide_eq_true (by first | (with_reducible assumption) | assumption)
            have q125 : (ji7) < (l0.length : Int) := of_decide_eq_true (by first | (with_reducible assumption) | assumption)
            obtain ⟨ad125, e125, hx125_0⟩ := Kd.at_int HR0.out (ji7) p125 q125
            obtain rfl : ad124 = ad125 := (by injection e125)
            replace hx125_0 := (HB.out.cell (World.block_lt_of_cell? w _ hx125_0)).trans hx125_0
            replace p125 := eq_true p125
            replace q125 := eq_true q125
            go_wp2_with (first | ((with_reducible refine gate_dst (N := 9) rfl ?_); refine box_event ?hg (N := 9) ?hd (cs := #[.int .i64 0, .int .i64 0]) (t := 40) ?hr ?_; (case hd => rfl); (case hg => rfl); (case hr => first | (go_simp; done) | (go_simp; rfl)); intro gb126 hg w12 hbox hb; have n0_ := Aside0.mk (Kd.R_below (Kd.R_elderB (by (with_reducible repeat (first | apply Kd.R_alloc | apply Kd.R_drewN | apply Kd.R_drew)); exact HO_5.out) gb126 (Nat.le_of_eq hg.symm)) hb); have n1_ := Aside0.mk (below_step (by repeat (first | (with_reducible first | exact HB.out | apply below_alloc | apply pw_below_drewN | apply below_drew1) | exact HB.out)) hb); have n2_ := Aside0.mk (hbox); have n3_ := Aside0.mk ((by rw [hg]; exact (below_size (by repeat (first | (with_reducible first | exact HB.out | apply below_alloc | apply pw_below_drewN | apply below_drew1) | exact HB.out))) : w.heap.size ≤ gb126)); have n4_ := Aside0.mk ((by rw [hg]; exact (below_size (by repeat (first | (with_reducible first | exact HB.out | apply below_alloc | apply pw_below_drewN | apply below_drew1) | exact HB.out))) : w.heap.size ≤ gb126)); clear HO_5; clear HB; have HO_5 := n0_; have HB := n1_; have BK126 := n2_; have GW126 := n3_; have GE126 := n4_; clear n0_ n1_ n2_ n3_ n4_; clear hb hbox hg; have hcz13_0 : w12.cell? ⟨gb126, 0, none⟩ = some (.int .i64 0) := (blk_cell BK126.out 0).trans rfl; have hcz13_1 : w12.cell? ⟨gb126, 1, none⟩ = some (.int .i64 0) := (blk_cell BK126.out 1).trans rfl; have hfz13_0 := blk_frozen BK126.out 0; have hfz13_1 := blk_frozen BK126.out 1; have p127 : 0 ≤ (x8_1 : Int) := of_decide_eq_true (by first | (with_reducible assumption) | assumption); have q127 : x8_1 < (l0.length : Int) := of_decide_eq_true (by first | (with_reducible assumption) | assumption); obtain ⟨ad127, e127, hx127_0⟩ := Kd.at_int HR0.out x8_1 p127 q127; obtain rfl : ad124 = ad127 := (by injection e127); have hn127_0 : ad124.block ≠ gb126 := Nat.ne_of_lt (Nat.lt_of_lt_of_le (by have := World.block_lt_of_cell? _ _ hx127_0; first | rwa [add_block] at this | exact this) GW126.out); have hn127_1 : ad124.block ≠ gb126 := Nat.ne_of_lt (Nat.lt_of_lt_of_le (by have := World.block_lt_of_cell? _ _ hx127_0; first | rwa [add_block] at this | exact this) GW126.out); replace hx127_0 := (HB.out.cell (World.block_lt_of_cell? w _ hx127_0)).trans hx127_0; replace hx127_0 := (cell_far (p := ⟨gb126, 0, none⟩) (by first | (rw [add_block]; exact hn127_0) | (show (Addr.add _ _).block ≠ _; rw [add_block]; exact hn127_0) | exact hn127_0) (.int .i64 (wrap64 (x6_1 + (wrap64 (Int.tmod (rd l0 x8_1) 40)))))).trans hx127_0; replace hx127_0 := (cell_far (p := ⟨gb126, 1, none⟩) (by first | (rw [add_block]; exact hn127_1) | (show (Addr.add _ _).block ≠ _; rw [add_block]; exact hn127_1) | exact hn127_1) (.int .i64 (wrap64 (1 + (wrap64 (Int.tmod (rd l0 (ji7)) 30)))))).trans hx127_0; clear hn127_0; clear hn127_1; replace p127 := eq_true p127; replace q127 := eq_true q127) | ((with_reducible refine gate_builtin (b := .append) (xs := #[.tmp 57, .tmp 59]) rfl ?_); at_builtin; refine Kd.R_append k40 (w0 := w) w.heap.size rfl (.tmp 57) (.tmp 59) 23 40 (.agg #[(.int .i64 0), (.int .i64 0)]) 16 rfl Tryd.underlying23 info40 rfl (by decide) (by omega) u5 x5_1 (⟨wrap64 ((wrap64 (x6_1 + (wrap64 (Int.tmod (rd l0 x8_1) 40)))) - 50), wrap64 (1 + (wrap64 (Int.tmod (rd l0 (ji7)) 30)))⟩ : S40) [.int .i64 (wrap64 ((wrap64 (x6_1 + (wrap64 (Int.tmod (rd l0 x8_1) 40)))) - 50)), .int .i64 (wrap64 (1 + (wrap64 (Int.tmod (rd l0 (ji7)) 30))))] (fun k_ => k_ ≠ gb126) (fun _ => False) rfl (by first | (go_simp; done) | (go_simp; rfl)) ?aP (fun _ hk => hk.elim) ?aF ?aO ?aB ?aS ?aL ?_; (case aP => exact k40_mkM _ _ _ (⟨wrap64 ((wrap64 (x6_1 + (wrap64 (Int.tmod (rd l0 x8_1) 40)))) - 50), wrap64 (1 + (wrap64 (Int.tmod (rd l0 (ji7)) 30)))⟩ : S40)); (case aB => exact (by repeat (first | (with_reducible first | exact HB.out | apply below_alloc | apply pw_below_drewN | apply below_drew1 | refine below_set ?_ GE126.out) | exact HB.out))); (case aF => exact (fun k_ hk => Kd.freshB (g := gb126) (o := .cells #[.int .i64 (wrap64 ((wrap64 (x6_1 + (wrap64 (Int.tmod (rd l0 x8_1) 40)))) - 50)), .int .i64 (wrap64 (1 + (wrap64 (Int.tmod (rd l0 (ji7)) 30))))] 40 (0, 0)) (by (with_reducible repeat (first | refine blk_drewN ?_ _ | refine blk_drew ?_ | refine blk_alloc ?_ _)); refine blk_put (cs := #[.int .i64 (wrap64 (x6_1 + (wrap64 (Int.tmod (rd l0 x8_1) 40)))), .int .i64 (wrap64 (1 + (wrap64 (Int.tmod (rd l0 (ji7)) 30))))]) ?_ 0 _ rfl; (with_reducible repeat (first | refine blk_drewN ?_ _ | refine blk_drew ?_ | refine blk_alloc ?_ _)); refine blk_put (cs := #[.int .i64 (wrap64 (x6_1 + (wrap64 (Int.tmod (rd l0 x8_1) 40)))), .int .i64 0]) ?_ 1 _ rfl; (with_reducible repeat (first | refine blk_drewN ?_ _ | refine blk_drew ?_ | refine blk_alloc ?_ _)); refine blk_put (cs := #[.int .i64 0, .int .i64 0]) ?_ 0 _ rfl; (with_reducible repeat (first | refine blk_drewN ?_ _ | refine blk_drew ?_ | refine blk_alloc ?_ _)); exact BK126.out) k_ hk)); (case aO => exact (by (with_reducible repeat (first | apply Kd.R_alloc | apply Kd.R_drewN | apply Kd.R_drew)); exact Kd.R_mono (Kd.R_far (p := ⟨gb126, 0, none⟩) (Kd.R_far (p := ⟨gb126, 1, none⟩) (Kd.R_far (p := ⟨gb126, 0, none⟩) (Kd.R_mono HO_5.out (fun k_ hk => (⟨hk, hk.2⟩ : _ ∧ k_ ≠ gb126))) (fun _ hk => hk.2) (.int .i64 (wrap64 (x6_1 + (wrap64 (Int.tmod (rd l0 x8_1) 40)))))) (fun _ hk => hk.2) (.int .i64 (wrap64 (1 + (wrap64 (Int.tmod (rd l0 (ji7)) 30)))))) (fun _ hk => hk.2) (.int .i64 (wrap64 ((wrap64 (x6_1 + (wrap64 (Int.tmod (rd l0 x8_1) 40)))) - 50)))) (fun _ hk => hk.1.2))); (case aS => exact (below_size (by repeat (first | (with_reducible first | exact HB.out | apply below_alloc | apply pw_below_drewN | apply below_drew1 | refine below_set ?_ GE126.out) | exact HB.out)))); (case aL => have := LMc11.out; omega); intro v129 w14 ho hb hg hat; rw [← Ny128.out] at ho; have n0_ := Aside0.mk (blk_grown (g := gb126) (o := .cells #[.int .i64 (wrap64 ((wrap64 (x6_1 + (wrap64 (Int.tmod (rd l0 x8_1) 40)))) - 50)), .int .i64 (wrap64 (1 + (wrap64 (Int.tmod (rd l0 (ji7)) 30))))] 40 (0, 0)) (by (with_reducible repeat (first | refine blk_drewN ?_ _ | refine blk_drew ?_ | refine blk_alloc ?_ _)); refine blk_put (cs := #[.int .i64 (wrap64 (x6_1 + (wrap64 (Int.tmod (rd l0 x8_1) 40)))), .int .i64 (wrap64 (1 + (wrap64 (Int.tmod (rd l0 (ji7)) 30))))]) ?_ 0 _ rfl; (with_reducible repeat (first | refine blk_drewN ?_ _ | refine blk_drew ?_ | refine blk_alloc ?_ _)); refine blk_put (cs := #[.int .i64 (wrap64 (x6_1 + (wrap64 (Int.tmod (rd l0 x8_1) 40)))), .int .i64 0]) ?_ 1 _ rfl; (with_reducible repeat (first | refine blk_drewN ?_ _ | refine blk_drew ?_ | refine blk_alloc ?_ _)); refine blk_put (cs := #[.int .i64 0, .int .i64 0]) ?_ 0 _ rfl; (with_reducible repeat (first | refine blk_drewN ?_ _ | refine blk_drew ?_ | refine blk_alloc ?_ _)); exact BK126.out) hg (Kd.R_away HO_5.out (fun _ hk => hk.2))); have n1_ := Aside0.mk (hb); have n2_ := Aside0.mk (ho); clear BK126; clear HB; clear HO_5; have BK126 := n0_; have HB := n1_; have HO130 := n2_; clear n0_ n1_ n2_; clear ho hb hg hat))
            go_roundg kj1
            case measure => have := HK1.out; have := HJ1.out; omega
            case rel => exact ⟨(y128), (wrap64 ((wrap64 ((wrap64 (x6_1 + (wrap64 (Int.tmod (rd l0 x8_1) 40)))) - 50)) + (wrap64 (1 + (wrap64 (Int.tmod (rd l0 (ji7)) 30)))))), (wrap64 (x7_1 + (wrap64 (1 + (wrap64 (Int.tmod (rd l0 (ji7)) 30)))))), (wrap64 (x8_1 + 2)), (by first | rfl | (simp; done) | (simp only [← hji7] <;> (first | rfl | simp)) | (simp [*]; done)), (by first | rfl | (simp; done) | (simp only [← hji7] <;> (first | rfl | simp)) | (simp [*]; done)), (by first | rfl | (simp; done) | (simp [*]; done)), H', ⟨by have := HK1.out; have := HJ1.out; omega⟩, ⟨by (with_reducible repeat (first | apply Kd.R_alloc | apply Kd.R_drewN | apply Kd.R_drew)); exact Kd.R_mono HO130.out (fun _ hk => trivial)⟩, ⟨by repeat (first | (with_reducible first | exact HB.out | apply below_alloc | apply pw_below_drewN | apply below_drew1 | refine below_set ?_ GE126.out) | exact HB.out)⟩⟩
           ·rw [if_neg c11] at H
            exact absurd H (by simp)
          ·rw [if_neg c10] at H
           have c10b0 : decide (250 < (rd l0 x8_1)) = false := decide_eq_false c10
           clear c10
           by_cases c15 : x5_1.length < 8796093022208
           ·rw [if_pos c15] at H
            have LMc15 := Aside0.mk c15
            clear c15
            obtain ⟨y131, hy131⟩ : ∃ y_ : List (S40), y_ = (x5_1 ++ [(⟨wrap64 (x6_1 + (wrap64 (Int.tmod (rd l0 x8_1) 40))), wrap64 (1 + (wrap64 (Int.tmod (rd l0 (ji7)) 30)))⟩ : S40)]) := ⟨_, rfl⟩
            replace H : (mudlarklaw09_Parts.l0 kj1 l0 y131 (wrap64 ((wrap64 (x6_1 + (wrap64 (Int.tmod (rd l0 x8_1) 40)))) + (wrap64 (1 + (wrap64 (Int.tmod (rd l0 (ji7)) 30)))))) (wrap64 (x7_1 + (wrap64 (1 + (wrap64 (Int.tmod (rd l0 (ji7)) 30)))))) (wrap64 (x8_1 + 2))) = some (r1, r2, r3) := by first | (rw [hy131]; with_reducible exact H) | (have H2_ := (Option.bind_some _ _).symm.trans H; rw [hy131]; with_reducible exact H2_) | (have H2_ := (Option.bind_some _ _).symm.trans H; with_reducible exact H2_) | with_reducible exact H | (rw [hy131]; exact H) | exact H
            have Ny131 := Aside0.mk hy131
            clear hy131
            have H' := Aside0.mk H
            clear H
            have p124 : 0 ≤ (x8_1 : Int) := of_decide_eq_true (by first | (with_reducible assumption) | assumption)
            have q124 : x8_1 < (l0.length : Int) := of_decide_eq_true (by first | (with_reducible assumption) | assumption)
            obtain ⟨ad124, e124, hx124_0⟩ := Kd.at_int HR0.out x8_1 p124 q124
            cases e124
            replace hx124_0 := (HB.out.cell (World.block_lt_of_cell? w _ hx124_0)).trans hx124_0
            replace p124 := eq_true p124
            replace q124 := eq_true q124
            have p125 : 0 ≤ ((ji7) : Int) := of_decide_eq_true (by first | (with_reducible assumption) | assumption)
            have q125 : (ji7) < (l0.length : Int) := of_decide_eq_true (by first | (with_reducible assumption) | assumption)
            obtain ⟨ad125, e125, hx125_0⟩ := Kd.at_int HR0.out (ji7) p125 q125
            obtain rfl : ad124 = ad125 := (by injection e125)
            replace hx125_0 := (HB.out.cell (World.block_lt_of_cell? w _ hx125_0)).trans hx125_0
            replace p125 := eq_true p125
            replace q125 := eq_true q125
            go_wp2_with (first | ((with_reducible refine gate_dst (N := 9) rfl ?_); refine box_event ?hg (N := 9) ?hd (cs := #[.int .i64 0, .int .i64 0]) (t := 40) ?hr ?_; (case hd => rfl); (case hg => rfl); (case hr => first | (go_simp; done) | (go_simp; rfl)); intro gb126 hg w16 hbox hb; have n0_ := Aside0.mk (Kd.R_below (Kd.R_elderB (by (with_reducible repeat (first | apply Kd.R_alloc | apply Kd.R_drewN | apply Kd.R_drew)); exact HO_5.out) gb126 (Nat.le_of_eq hg.symm)) hb); have n1_ := Aside0.mk (below_step (by repeat (first | (with_reducible first | exact HB.out | apply below_alloc | apply pw_below_drewN | apply below_drew1) | exact HB.out)) hb); have n2_ := Aside0.mk (hbox); have n3_ := Aside0.mk ((by rw [hg]; exact (below_size (by repeat (first | (with_reducible first | exact HB.out | apply below_alloc | apply pw_below_drewN | apply below_drew1) | exact HB.out))) : w.heap.size ≤ gb126)); have n4_ := Aside0.mk ((by rw [hg]; exact (below_size (by repeat (first | (with_reducible first | exact HB.out | apply below_alloc | apply pw_below_drewN | apply below_drew1) | exact HB.out))) : w.heap.size ≤ gb126)); clear HO_5; clear HB; have HO_5 := n0_; have HB := n1_; have BK126 := n2_; have GW126 := n3_; have GE126 := n4_; clear n0_ n1_ n2_ n3_ n4_; clear hb hbox hg; have hcz17_0 : w16.cell? ⟨gb126, 0, none⟩ = some (.int .i64 0) := (blk_cell BK126.out 0).trans rfl; have hcz17_1 : w16.cell? ⟨gb126, 1, none⟩ = some (.int .i64 0) := (blk_cell BK126.out 1).trans rfl; have hfz17_0 := blk_frozen BK126.out 0; have hfz17_1 := blk_frozen BK126.out 1; have p127 : 0 ≤ (x8_1 : Int) := of_decide_eq_true (by first | (with_reducible assumption) | assumption); have q127 : x8_1 < (l0.length : Int) := of_decide_eq_true (by first | (with_reducible assumption) | assumption); obtain ⟨ad127, e127, hx127_0⟩ := Kd.at_int HR0.out x8_1 p127 q127; obtain rfl : ad124 = ad127 := (by injection e127); have hn127_0 : ad124.block ≠ gb126 := Nat.ne_of_lt (Nat.lt_of_lt_of_le (by have := World.block_lt_of_cell? _ _ hx127_0; first | rwa [add_block] at this | exact this) GW126.out); have hn127_1 : ad124.block ≠ gb126 := Nat.ne_of_lt (Nat.lt_of_lt_of_le (by have := World.block_lt_of_cell? _ _ hx127_0; first | rwa [add_block] at this | exact this) GW126.out); replace hx127_0 := (HB.out.cell (World.block_lt_of_cell? w _ hx127_0)).trans hx127_0; replace hx127_0 := (cell_far (p := ⟨gb126, 0, none⟩) (by first | (rw [add_block]; exact hn127_0) | (show (Addr.add _ _).block ≠ _; rw [add_block]; exact hn127_0) | exact hn127_0) (.int .i64 (wrap64 (x6_1 + (wrap64 (Int.tmod (rd l0 x8_1) 40)))))).trans hx127_0; replace hx127_0 := (cell_far (p := ⟨gb126, 1, none⟩) (by first | (rw [add_block]; exact hn127_1) | (show (Addr.add _ _).block ≠ _; rw [add_block]; exact hn127_1) | exact hn127_1) (.int .i64 (wrap64 (1 + (wrap64 (Int.tmod (rd l0 (ji7)) 30)))))).trans hx127_0; clear hn127_0; clear hn127_1; replace p127 := eq_true p127; replace q127 := eq_true q127) | ((with_reducible refine gate_builtin (b := .append) (xs := #[.tmp 57, .tmp 59]) rfl ?_); at_builtin; refine Kd.R_append k40 (w0 := w) w.heap.size rfl (.tmp 57) (.tmp 59) 23 40 (.agg #[(.int .i64 0), (.int .i64 0)]) 16 rfl Tryd.underlying23 info40 rfl (by decide) (by omega) u5 x5_1 (⟨wrap64 (x6_1 + (wrap64 (Int.tmod (rd l0 x8_1) 40))), wrap64 (1 + (wrap64 (Int.tmod (rd l0 (ji7)) 30)))⟩ : S40) [.int .i64 (wrap64 (x6_1 + (wrap64 (Int.tmod (rd l0 x8_1) 40)))), .int .i64 (wrap64 (1 + (wrap64 (Int.tmod (rd l0 (ji7)) 30))))] (fun k_ => k_ ≠ gb126) (fun _ => False) rfl (by first | (go_simp; done) | (go_simp; rfl)) ?aP (fun _ hk => hk.elim) ?aF ?aO ?aB ?aS ?aL ?_; (case aP => exact k40_mkM _ _ _ (⟨wrap64 (x6_1 + (wrap64 (Int.tmod (rd l0 x8_1) 40))), wrap64 (1 + (wrap64 (Int.tmod (rd l0 (ji7)) 30)))⟩ : S40)); (case aB => exact (by repeat (first | (with_reducible first | exact HB.out | apply below_alloc | apply pw_below_drewN | apply below_drew1 | refine below_set ?_ GE126.out) | exact HB.out))); (case aF => exact (fun k_ hk => Kd.freshB (g := gb126) (o := .cells #[.int .i64 (wrap64 (x6_1 + (wrap64 (Int.tmod (rd l0 x8_1) 40)))), .int .i64 (wrap64 (1 + (wrap64 (Int.tmod (rd l0 (ji7)) 30))))] 40 (0, 0)) (by (with_reducible repeat (first | refine blk_drewN ?_ _ | refine blk_drew ?_ | refine blk_alloc ?_ _)); refine blk_put (cs := #[.int .i64 (wrap64 (x6_1 + (wrap64 (Int.tmod (rd l0 x8_1) 40)))), .int .i64 0]) ?_ 1 _ rfl; (with_reducible repeat (first | refine blk_drewN ?_ _ | refine blk_drew ?_ | refine blk_alloc ?_ _)); refine blk_put (cs := #[.int .i64 0, .int .i64 0]) ?_ 0 _ rfl; (with_reducible repeat (first | refine blk_drewN ?_ _ | refine blk_drew ?_ | refine blk_alloc ?_ _)); exact BK126.out) k_ hk)); (case aO => exact (by (with_reducible repeat (first | apply Kd.R_alloc | apply Kd.R_drewN | apply Kd.R_drew)); exact Kd.R_mono (Kd.R_far (p := ⟨gb126, 1, none⟩) (Kd.R_far (p := ⟨gb126, 0, none⟩) (Kd.R_mono HO_5.out (fun k_ hk => (⟨hk, hk.2⟩ : _ ∧ k_ ≠ gb126))) (fun _ hk => hk.2) (.int .i64 (wrap64 (x6_1 + (wrap64 (Int.tmod (rd l0 x8_1) 40)))))) (fun _ hk => hk.2) (.int .i64 (wrap64 (1 + (wrap64 (Int.tmod (rd l0 (ji7)) 30)))))) (fun _ hk => hk.1.2))); (case aS => exact (below_size (by repeat (first | (with_reducible first | exact HB.out | apply below_alloc | apply pw_below_drewN | apply below_drew1 | refine below_set ?_ GE126.out) | exact HB.out)))); (case aL => have := LMc15.out; omega); intro v132 w18 ho hb hg hat; rw [← Ny131.out] at ho; have n0_ := Aside0.mk (blk_grown (g := gb126) (o := .cells #[.int .i64 (wrap64 (x6_1 + (wrap64 (Int.tmod (rd l0 x8_1) 40)))), .int .i64 (wrap64 (1 + (wrap64 (Int.tmod (rd l0 (ji7)) 30))))] 40 (0, 0)) (by (with_reducible repeat (first | refine blk_drewN ?_ _ | refine blk_drew ?_ | refine blk_alloc ?_ _)); refine blk_put (cs := #[.int .i64 (wrap64 (x6_1 + (wrap64 (Int.tmod (rd l0 x8_1) 40)))), .int .i64 0]) ?_ 1 _ rfl; (with_reducible repeat (first | refine blk_drewN ?_ _ | refine blk_drew ?_ | refine blk_alloc ?_ _)); refine blk_put (cs := #[.int .i64 0, .int .i64 0]) ?_ 0 _ rfl; (with_reducible repeat (first | refine blk_drewN ?_ _ | refine blk_drew ?_ | refine blk_alloc ?_ _)); exact BK126.out) hg (Kd.R_away HO_5.out (fun _ hk => hk.2))); have n1_ := Aside0.mk (hb); have n2_ := Aside0.mk (ho); clear BK126; clear HB; clear HO_5; have BK126 := n0_; have HB := n1_; have HO133 := n2_; clear n0_ n1_ n2_; clear ho hb hg hat))
            go_roundg kj1
            case measure => have := HK1.out; have := HJ1.out; omega
            case rel => exact ⟨(y131), (wrap64 ((wrap64 (x6_1 + (wrap64 (Int.tmod (rd l0 x8_1) 40)))) + (wrap64 (1 + (wrap64 (Int.tmod (rd l0 (ji7)) 30)))))), (wrap64 (x7_1 + (wrap64 (1 + (wrap64 (Int.tmod (rd l0 (ji7)) 30)))))), (wrap64 (x8_1 + 2)), (by first | rfl | (simp; done) | (simp only [← hji7] <;> (first | rfl | simp)) | (simp [*]; done)), (by first | rfl | (simp; done) | (simp only [← hji7] <;> (first | rfl | simp)) | (simp [*]; done)), (by first | rfl | (simp; done) | (simp [*]; done)), H', ⟨by have := HK1.out; have := HJ1.out; omega⟩, ⟨by (with_reducible repeat (first | apply Kd.R_alloc | apply Kd.R_drewN | apply Kd.R_drew)); exact Kd.R_mono HO133.out (fun _ hk => trivial)⟩, ⟨by repeat (first | (with_reducible first | exact HB.out | apply below_alloc | apply pw_below_drewN | apply below_drew1 | refine below_set ?_ GE126.out) | exact HB.out)⟩⟩
           ·rw [if_neg c15] at H
            exact absurd H (by simp)
         ·rw [if_neg c9] at H
          exact absurd H (by simp)
        ·rw [if_neg c8] at H
         exact absurd H (by simp)
       ·rw [if_neg c6] at H
        exact absurd H (by simp)
      ·rw [if_neg c5] at H
       exact absurd H (by simp)
     ·replace c4 := Bool.eq_false_iff.mpr c4
      subst c4
      have H1 : (some (x5_1, x7_1, x6_1)) = some (r1, r2, r3) := by rw [if_neg (show ¬ (false = true) by decide)] at H; exact H
      clear H
      have H := H1
      clear H1
      simp only [Option.some.injEq, Prod.mk.injEq] at H
      obtain ⟨rfl, rfl, rfl⟩ := H
      go_wp2
      go_ret3
      exact ⟨_, by first | rfl | (simp [errW_none, errW_some] <;> rfl) | (simp [*, errW_none, errW_some] <;> rfl), by (with_reducible repeat (first | apply Kd.R_alloc | apply Kd.R_drewN | apply Kd.R_drew)); exact HO_5.out, by repeat (first | (with_reducible first | exact HB.out | apply below_alloc | apply pw_below_drewN | apply below_drew1) | exact HB.out)⟩

/-! ### mudlarkref09_number: function 46 -/
def mudlarkref09_number.f (a0 : Int) : Option (ByteArray) := (strconv_Itoa_34.f (mx 0 (mn a0 9999999999999))).bind fun t134 => (some t134)
set_option maxHeartbeats 8000000 in
set_option maxRecDepth 100000 in
theorem mudlarkref09_number.calls (a0 : Int) (r : ByteArray) (w : World) (h : mudlarkref09_number.f a0 = some r) (HT_ : Tabs w) :
  Calls Tryd.prog 46 #[.int .i64 a0] w fun e w' => e = .returned (.string r) ∧ Below w.heap.size w w' := by
 have HT := Aside0.mk HT_
 clear HT_
 have HB := Aside0.mk (Below.refl w.heap.size w)
 have H : ((strconv_Itoa_34.f (mx 0 (mn a0 9999999999999))).bind fun t134 => (some t134)) = some r := h
 clear h
 obtain ⟨ji2, hji2⟩ : ∃ j_ : Int, (mn a0 9999999999999) = j_ := ⟨_, rfl⟩
 replace H : ((strconv_Itoa_34.f (mx 0 (ji2))).bind fun t134 => (some t134)) = some r := by first | (rw [hji2] at H; exact H) | (simp only [hji2] at H ⊢; exact H)
 (try (have hji2h : ji2 ≤ 9999999999999 := by (rw [← hji2]; unfold mn; (repeat' split) <;> omega)))
 (try (have hji2g : ji2 ≤ 64 := by omega))
 have hji2_ : (if 9999999999999 < a0 then 9999999999999 else a0) = ji2 := hji2
 obtain ⟨ji3, hji3⟩ : ∃ j_ : Int, (mx 0 (ji2)) = j_ := ⟨_, rfl⟩
 replace H : ((strconv_Itoa_34.f (ji3)).bind fun t134 => (some t134)) = some r := by first | (rw [hji3] at H; exact H) | (simp only [hji3] at H ⊢; exact H)
 have hji3_ : (if 0 < (ji2) then (ji2) else 0) = ji3 := hji3
 replace H := Option.bind_eq_some_iff.mp H
 obtain ⟨t134, A40, H⟩ := H
 replace H : (some t134) = some r := H
 have A4 := Aside0.mk A40
 clear A40
 obtain rfl := Option.some.inj H
 go_enter Tryd.func46, Tryd.ntmps46
 go_wp2_with (first | ((with_reducible refine gate_callee (f := 34) rfl ?_); refine goesL_ (some 6) rfl rfl Tryd.func34 (by kernel_rfl) rfl #[.int .i64 ji3] rfl (by (try simp only [List.map_toArray, List.map_cons, List.map_nil]); first | done | (simp only [hji3]; rfl) | rfl | (simp only [List.length_drop, List.length_take]; rfl)) ?_; (with_reducible refine (strconv_Itoa_34.calls ji3 t134 _ A4.out (HT.out.below (by repeat (first | (with_reducible first | exact HB.out | apply below_alloc | apply pw_below_drewN | apply below_drew1) | exact HB.out)))).mono ?_); rintro e w5 ⟨rfl, hb⟩; refine ⟨_, rfl, ?_⟩; have n0_ := Aside0.mk (below_step (by repeat (first | (with_reducible first | exact HB.out | apply below_alloc | apply pw_below_drewN | apply below_drew1) | exact HB.out)) hb); clear HB; have HB := n0_; clear n0_; (try clear hb); (try clear hb2); (try clear hk); (try clear hi)))
 go_ret
 exact ⟨by first | rfl | (simp [errW_none, errW_some] <;> rfl) | (simp only [← hji2, ← hji3]; first | rfl | (simp [errW_none, errW_some] <;> rfl)) | (simp [*, errW_none, errW_some] <;> rfl), by repeat (first | (with_reducible first | exact HB.out | apply below_alloc | apply pw_below_drewN | apply below_drew1) | exact HB.out)⟩

end Go.Proofs.YtlnbkmlidmgbaaaDoor.P
