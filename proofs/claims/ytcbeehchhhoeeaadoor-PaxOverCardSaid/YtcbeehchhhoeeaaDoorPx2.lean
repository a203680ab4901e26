/- Lean functions with the answers of the Go functions of this seat, and for each the proof that the Go code comes to them (made by the session's program over the kit's print). No conditions. -/
import Derived.Test.YtcbeehchhhoeeaaDoorPx0
import Derived.Test.YtcbeehchhhoeeaaDoorHCutF
import Derived.Test.YtcbeehchhhoeeaaDoorHPaxR
import Derived.Test.YtcbeehchhhoeeaaDoorHStdE
namespace Go.Proofs.YtcbeehchhhoeeaaDoor.P
open Go.RowKit Go.Proofs.YtcbeehchhhoeeaaDoorW.PrintWords Go.Proofs.YtcbeehchhhoeeaaDoorW.PrintLast Go.Proofs.YtcbeehchhhoeeaaDoorW.PrintMore
attribute [local go_sem] max2_int min2_int max_two min_two max_three min_three max_four min_four   -- for this text's walks alone
set_option linter.unusedVariables false
set_option linter.unusedSimpArgs false

/-! ### pax_line: function 25 -/
def pax_line.l0 : Nat → ByteArray → Int → Option (ByteArray)
  | 0, _, _ => none
  | k + 1, x3, x4 => (strconv_Itoa_42.f x4).bind fun t102 => (if (wrap64 ((t102.size : Int) + (x3.size : Int))) = x4 then ((strconv_Itoa_42.f x4).bind fun t103 => (if t103.size + x3.size ≤ 9223372036854775807 then (some (t103 ++ x3)) else (none))) else ((strconv_Itoa_42.f x4).bind fun t104 => (pax_line.l0 k x3 (wrap64 ((t104.size : Int) + (x3.size : Int))))))
def pax_line.f (k : Nat) (a0_0 : ByteArray) (a0_1 : ByteArray) : Option (ByteArray) := if 1 + a0_0.size ≤ 9223372036854775807 then (if ((⟨#[32]⟩ : ByteArray) ++ a0_0).size + 1 ≤ 9223372036854775807 then (if (((⟨#[32]⟩ : ByteArray) ++ a0_0) ++ (⟨#[61]⟩ : ByteArray)).size + a0_1.size ≤ 9223372036854775807 then (if ((((⟨#[32]⟩ : ByteArray) ++ a0_0) ++ (⟨#[61]⟩ : ByteArray)) ++ a0_1).size + 1 ≤ 9223372036854775807 then (pax_line.l0 k (((((⟨#[32]⟩ : ByteArray) ++ a0_0) ++ (⟨#[61]⟩ : ByteArray)) ++ a0_1) ++ (⟨#[10]⟩ : ByteArray)) (wrap64 (((((((⟨#[32]⟩ : ByteArray) ++ a0_0) ++ (⟨#[61]⟩ : ByteArray)) ++ a0_1) ++ (⟨#[10]⟩ : ByteArray)).size : Int) + 1))) else (none)) else (none)) else (none)) else (none)
theorem pax_line.mono_l : ∀ k, (∀ y0 y1, LeO (pax_line.l0 k y0 y1) (pax_line.l0 (k + 1) y0 y1))
  | 0 => fun _ _ r h => by simp [pax_line.l0] at h
  | k + 1 => by
    have ih0 := pax_line.mono_l k
    · intro y0 y1
      unfold pax_line.l0
      repeat' first
      | (with_reducible exact ih0 _ _)
      | (with_reducible exact LeO.refl _)
      | (with_reducible exact LeO.none _)
      | (with_reducible refine LeO.ite ?_ ?_)
      | (with_reducible refine LeO.bind ?_ (fun _ => ?_))
      | exact ih0 _ _
      | exact LeO.none _
      | refine LeO.ite ?_ ?_
      | refine LeO.bind ?_ (fun _ => ?_)
theorem pax_line.mono : ∀ a0 a1 k, LeO (pax_line.f k a0 a1) (pax_line.f (k + 1) a0 a1) := by
  intro a0 a1 k
  have ih0 := pax_line.mono_l k
  unfold pax_line.f
  repeat' first
      | (with_reducible exact ih0 _ _)
      | (with_reducible exact LeO.refl _)
      | (with_reducible exact LeO.none _)
      | (with_reducible refine LeO.ite ?_ ?_)
      | (with_reducible refine LeO.bind ?_ (fun _ => ?_))
      | exact ih0 _ _
      | exact LeO.none _
      | refine LeO.ite ?_ ?_
      | refine LeO.bind ?_ (fun _ => ?_)
set_option maxHeartbeats 8000000 in
set_option maxRecDepth 100000 in
theorem pax_line.calls (k : Nat) (a0_0 : ByteArray) (a0_1 : ByteArray) (r : ByteArray) (w : World) (h : pax_line.f k a0_0 a0_1 = some r) (HT_ : Tabs w) :
    Calls Tryd.prog 25 #[.agg #[.string a0_0, .string a0_1]] w fun e w' => e = .returned (.string r) ∧ Below w.heap.size w w' := by
  have HT := Aside0.mk HT_
  clear HT_
  have hu41 := Tryd.underlying41
  have HB := Aside0.mk (Below.refl w.heap.size w)
  have H : (if 1 + a0_0.size ≤ 9223372036854775807 then (if ((⟨#[32]⟩ : ByteArray) ++ a0_0).size + 1 ≤ 9223372036854775807 then (if (((⟨#[32]⟩ : ByteArray) ++ a0_0) ++ (⟨#[61]⟩ : ByteArray)).size + a0_1.size ≤ 9223372036854775807 then (if ((((⟨#[32]⟩ : ByteArray) ++ a0_0) ++ (⟨#[61]⟩ : ByteArray)) ++ a0_1).size + 1 ≤ 9223372036854775807 then (pax_line.l0 k (((((⟨#[32]⟩ : ByteArray) ++ a0_0) ++ (⟨#[61]⟩ : ByteArray)) ++ a0_1) ++ (⟨#[10]⟩ : ByteArray)) (wrap64 (((((((⟨#[32]⟩ : ByteArray) ++ a0_0) ++ (⟨#[61]⟩ : ByteArray)) ++ a0_1) ++ (⟨#[10]⟩ : ByteArray)).size : Int) + 1))) else (none)) else (none)) else (none)) else (none)) = some r := h
  clear h
  by_cases c2 : 1 + a0_0.size ≤ 9223372036854775807
  · rw [if_pos c2] at H
    have c2b0 := eq_true c2
    have c2b1 : decide (1 + a0_0.size ≤ 9223372036854775807) = true := decide_eq_true c2
    try have c2b2 : (9223372036854775807 < 1 + a0_0.size) = False := eq_false (Nat.not_lt.2 c2)
    by_cases c3 : ((⟨#[32]⟩ : ByteArray) ++ a0_0).size + 1 ≤ 9223372036854775807
    · rw [if_pos c3] at H
      have c3b0 := eq_true c3
      have c3b1 : decide (((⟨#[32]⟩ : ByteArray) ++ a0_0).size + 1 ≤ 9223372036854775807) = true := decide_eq_true c3
      try have c3b2 : (9223372036854775807 < ((⟨#[32]⟩ : ByteArray) ++ a0_0).size + 1) = False := eq_false (Nat.not_lt.2 c3)
      (try have c3n : (9223372036854775807 < 1 + a0_0.size + 1) = False := eq_false (by have h_ := c3; simp only [ByteArray.size_append, ByteArray.size_extract] at h_; have : (⟨#[32]⟩ : ByteArray).size = 1 := rfl; omega))
      by_cases c4 : (((⟨#[32]⟩ : ByteArray) ++ a0_0) ++ (⟨#[61]⟩ : ByteArray)).size + a0_1.size ≤ 9223372036854775807
      · rw [if_pos c4] at H
        have c4b0 := eq_true c4
        have c4b1 : decide ((((⟨#[32]⟩ : ByteArray) ++ a0_0) ++ (⟨#[61]⟩ : ByteArray)).size + a0_1.size ≤ 9223372036854775807) = true := decide_eq_true c4
        try have c4b2 : (9223372036854775807 < (((⟨#[32]⟩ : ByteArray) ++ a0_0) ++ (⟨#[61]⟩ : ByteArray)).size + a0_1.size) = False := eq_false (Nat.not_lt.2 c4)
        (try have c4n : (9223372036854775807 < 1 + a0_0.size + 1 + a0_1.size) = False := eq_false (by have h_ := c4; simp only [ByteArray.size_append, ByteArray.size_extract] at h_; have : (⟨#[32]⟩ : ByteArray).size = 1 := rfl; have : (⟨#[61]⟩ : ByteArray).size = 1 := rfl; omega))
        by_cases c5 : ((((⟨#[32]⟩ : ByteArray) ++ a0_0) ++ (⟨#[61]⟩ : ByteArray)) ++ a0_1).size + 1 ≤ 9223372036854775807
        · rw [if_pos c5] at H
          have c5b0 := eq_true c5
          have c5b1 : decide (((((⟨#[32]⟩ : ByteArray) ++ a0_0) ++ (⟨#[61]⟩ : ByteArray)) ++ a0_1).size + 1 ≤ 9223372036854775807) = true := decide_eq_true c5
          try have c5b2 : (9223372036854775807 < ((((⟨#[32]⟩ : ByteArray) ++ a0_0) ++ (⟨#[61]⟩ : ByteArray)) ++ a0_1).size + 1) = False := eq_false (Nat.not_lt.2 c5)
          (try have c5n : (9223372036854775807 < 1 + a0_0.size + 1 + a0_1.size + 1) = False := eq_false (by have h_ := c5; simp only [ByteArray.size_append, ByteArray.size_extract] at h_; have : (⟨#[32]⟩ : ByteArray).size = 1 := rfl; have : (⟨#[61]⟩ : ByteArray).size = 1 := rfl; omega))
          have H' := Aside0.mk H
          clear H
          go_enter Tryd.func25, Tryd.ntmps25
          go_wp2_with (first | ((with_reducible refine gate_dst (N := 1) rfl ?_); refine box_event ?hg (N := 1) ?hd (cs := #[.string a0_0, .string a0_1]) (t := 41) ?hr ?_; (case hd => rfl); (case hg => rfl); (case hr => first | (go_simp; done) | (go_simp; rfl)); intro gb101 hg w6 hbox hb; have n0_ := Aside0.mk (below_step (by repeat (first | (with_reducible first | exact HB.out | apply below_alloc | apply pw_below_drewN | apply below_drew1) | exact HB.out)) hb); have n1_ := Aside0.mk (hbox); have n2_ := Aside0.mk ((by rw [hg]; exact (below_size (by repeat (first | (with_reducible first | exact HB.out | apply below_alloc | apply pw_below_drewN | apply below_drew1) | exact HB.out))) : w.heap.size ≤ gb101)); have n3_ := Aside0.mk ((by rw [hg]; exact (below_size (by repeat (first | (with_reducible first | exact HB.out | apply below_alloc | apply pw_below_drewN | apply below_drew1) | exact HB.out))) : w.heap.size ≤ gb101)); clear HB; have HB := n0_; have BK101 := n1_; have GW101 := n2_; have GE101 := n3_; clear n0_ n1_ n2_ n3_; clear hb hbox hg; have hcz7_0 : w6.cell? ⟨gb101, 0, none⟩ = some (.string a0_0) := (blk_cell BK101.out 0).trans rfl; have hcz7_1 : w6.cell? ⟨gb101, 1, none⟩ = some (.string a0_1) := (blk_cell BK101.out 1).trans rfl; have hfz7_0 := blk_frozen BK101.out 0; have hfz7_1 := blk_frozen BK101.out 1))
          obtain ⟨X_, hX_⟩ : ∃ X_, X_ = (((((⟨#[32]⟩ : ByteArray) ++ a0_0) ++ (⟨#[61]⟩ : ByteArray)) ++ a0_1) ++ (⟨#[10]⟩ : ByteArray)) := ⟨_, rfl⟩
          have HXS := Aside0.mk (show (X_.size : Int) = 1 + (a0_0.size : Int) + 1 + (a0_1.size : Int) + 1 by rw [hX_]; simp only [ByteArray.size_append]; have h32 : (⟨#[32]⟩ : ByteArray).size = 1 := rfl; have h61 : (⟨#[61]⟩ : ByteArray).size = 1 := rfl; have h10 : (⟨#[10]⟩ : ByteArray).size = 1 := rfl; rw [h32, h61, h10]; push_cast; rfl)
          rw [← hX_] at H' ⊢
          clear hX_
          go_loopg [4] k (fun kq v4 w' => ∃ (x4_1 : Int), v4 = .int .i64 x4_1 ∧ Aside0 (pax_line.l0 kq X_ x4_1 = some r) ∧ Aside0 (kq ≤ k) ∧ Aside0 (w'.heap[gb101]? = some (.cells #[.string a0_0, .string a0_1] 41 (0, 0))) ∧ Aside0 (Below w.heap.size w w'))
          case atStart => exact ⟨(wrap64 ((X_.size : Int) + 1)), (by first | rfl | (rw [HXS.out]; done) | (simp; done) | (simp [*]; done)), H', ⟨Nat.le_refl _⟩, ⟨by (with_reducible repeat (first | refine blk_drewN ?_ _ | refine blk_drew ?_ | refine blk_alloc ?_ _)); exact BK101.out⟩, ⟨by repeat (first | (with_reducible first | exact HB.out | apply below_alloc | apply pw_below_drewN | apply below_drew1 | refine below_set ?_ GE101.out) | exact HB.out)⟩⟩
          case round =>
            clear H'
            try clear c2
            try clear c2b0
            try clear c2b1
            try clear c2b2
            try clear p2
            try clear c3
            try clear c3b0
            try clear c3b1
            try clear c3b2
            try clear c4
            try clear c4b0
            try clear c4b1
            try clear c4b2
            try clear c5
            try clear c5b0
            try clear c5b1
            try clear c5b2
            try clear p6
            try clear hcz7_0
            try clear hcz7_1
            try clear hfz7_0
            try clear hfz7_1
            obtain ⟨x4_1, rfl, HA, HK1, BK101, HB⟩ := hrel
            cases gk with
            | zero => exact absurd HA.out (by simp [pax_line.l0])
            | succ k1 =>
              have H := HA.out
              clear HA
              simp only [pax_line.l0] at H
              replace H := Option.bind_eq_some_iff.mp H
              obtain ⟨t102, A80, H⟩ := H
              replace H : (if (wrap64 ((t102.size : Int) + (X_.size : Int))) = x4_1 then ((strconv_Itoa_42.f x4_1).bind fun t103 => (if t103.size + X_.size ≤ 9223372036854775807 then (some (t103 ++ X_)) else (none))) else ((strconv_Itoa_42.f x4_1).bind fun t104 => (pax_line.l0 k1 X_ (wrap64 ((t104.size : Int) + (X_.size : Int)))))) = some r := H
              have A8 := Aside0.mk A80
              clear A80
              by_cases c9 : (wrap64 ((t102.size : Int) + (X_.size : Int))) = x4_1
              · rw [if_pos c9] at H
                have c9b0 : ((wrap64 ((t102.size : Int) + (X_.size : Int))) == x4_1) = true := beq_iff_eq.mpr c9
                have c9b1 : ((wrap64 ((t102.size : Int) + (X_.size : Int))) != x4_1) = false := bne_eq_false_iff_eq.mpr c9
                clear c9
                replace H := Option.bind_eq_some_iff.mp H
                obtain ⟨t103, A100, H⟩ := H
                obtain rfl : t102 = t103 := Option.some.inj (A8.out.symm.trans A100)
                replace H : (if t102.size + X_.size ≤ 9223372036854775807 then (some (t102 ++ X_)) else (none)) = some r := H
                have A10 := Aside0.mk A100
                clear A100
                by_cases c11 : t102.size + X_.size ≤ 9223372036854775807
                · rw [if_pos c11] at H
                  have c11b0 := eq_true c11
                  have c11b1 : decide (t102.size + X_.size ≤ 9223372036854775807) = true := decide_eq_true c11
                  have c9w : ((t102.size : Int) + (X_.size : Int) != x4_1) = false := by rw [← show wrap64 ((t102.size : Int) + (X_.size : Int)) = (t102.size : Int) + (X_.size : Int) by unfold wrap64; omega]; exact c9b1
                  try have c11b2 : (9223372036854775807 < t102.size + X_.size) = False := eq_false (Nat.not_lt.2 c11)
                  (try have c11n : (9223372036854775807 < t102.size + (1 + a0_0.size + 1 + a0_1.size + 1)) = False := eq_false (by have h_ := c11; simp only [ByteArray.size_append, ByteArray.size_extract] at h_; have : (⟨#[10]⟩ : ByteArray).size = 1 := rfl; have : (⟨#[32]⟩ : ByteArray).size = 1 := rfl; have : (⟨#[61]⟩ : ByteArray).size = 1 := rfl; omega))
                  obtain rfl := Option.some.inj H
                  go_wp2_with (first | ((with_reducible refine gate_callee (f := 42) rfl ?_); refine goesL_ (some 17) rfl rfl Tryd.func42 (by kernel_rfl) rfl #[.int .i64 x4_1] rfl (by (try simp only [List.map_toArray, List.map_cons, List.map_nil]); first | done | rfl | (simp only [List.length_drop, List.length_take]; rfl)) ?_; (with_reducible refine (strconv_Itoa_42.calls x4_1 t102 _ A8.out (HT.out.below (by repeat (first | (with_reducible first | exact HB.out | apply below_alloc | apply pw_below_drewN | apply below_drew1 | refine below_set ?_ GE101.out) | exact HB.out)))).mono ?_); rintro e w12 ⟨rfl, hb⟩; refine ⟨_, rfl, ?_⟩; have n0_ := Aside0.mk (blk_below (g := gb101) (o := .cells #[.string a0_0, .string a0_1] 41 (0, 0)) (by (with_reducible repeat (first | refine blk_drewN ?_ _ | refine blk_drew ?_ | refine blk_alloc ?_ _)); exact BK101.out) hb); have n1_ := Aside0.mk (below_step (by repeat (first | (with_reducible first | exact HB.out | apply below_alloc | apply pw_below_drewN | apply below_drew1 | refine below_set ?_ GE101.out) | exact HB.out)) hb); clear BK101; clear HB; have BK101 := n0_; have HB := n1_; clear n0_ n1_; (try clear hb); (try clear hb2); (try clear hk); (try clear hi)) | ((with_reducible refine gate_callee (f := 42) rfl ?_); refine goesL_ (some 31) rfl rfl Tryd.func42 (by kernel_rfl) rfl #[.int .i64 x4_1] rfl (by (try simp only [List.map_toArray, List.map_cons, List.map_nil]); first | done | rfl | (simp only [List.length_drop, List.length_take]; rfl)) ?_; (with_reducible refine (strconv_Itoa_42.calls x4_1 t102 _ A10.out (HT.out.below (by repeat (first | (with_reducible first | exact HB.out | apply below_alloc | apply pw_below_drewN | apply below_drew1 | refine below_set ?_ GE101.out) | exact HB.out)))).mono ?_); rintro e w13 ⟨rfl, hb⟩; refine ⟨_, rfl, ?_⟩; have n0_ := Aside0.mk (blk_below (g := gb101) (o := .cells #[.string a0_0, .string a0_1] 41 (0, 0)) (by (with_reducible repeat (first | refine blk_drewN ?_ _ | refine blk_drew ?_ | refine blk_alloc ?_ _)); exact BK101.out) hb); have n1_ := Aside0.mk (below_step (by repeat (first | (with_reducible first | exact HB.out | apply below_alloc | apply pw_below_drewN | apply below_drew1 | refine below_set ?_ GE101.out) | exact HB.out)) hb); clear BK101; clear HB; have BK101 := n0_; have HB := n1_; clear n0_ n1_; (try clear hb); (try clear hb2); (try clear hk); (try clear hi)))
                  go_ret
                  exact ⟨by first | rfl | (simp [errW_none, errW_some] <;> rfl) | (simp [*, errW_none, errW_some] <;> rfl), by repeat (first | (with_reducible first | exact HB.out | apply below_alloc | apply pw_below_drewN | apply below_drew1 | refine below_set ?_ GE101.out) | exact HB.out)⟩
                · rw [if_neg c11] at H
                  exact absurd H (by simp)
              · rw [if_neg c9] at H
                have c9b0 : ((wrap64 ((t102.size : Int) + (X_.size : Int))) == x4_1) = false := beq_eq_false_iff_ne.mpr c9
                have c9b1 : ((wrap64 ((t102.size : Int) + (X_.size : Int))) != x4_1) = true := bne_iff_ne.mpr c9
                replace H := Option.bind_eq_some_iff.mp H
                obtain ⟨t104, A140, H⟩ := H
                obtain rfl : t102 = t104 := Option.some.inj (A8.out.symm.trans A140)
                replace H : (pax_line.l0 k1 X_ (wrap64 ((t102.size : Int) + (X_.size : Int)))) = some r := H
                have A14 := Aside0.mk A140
                clear A140
                have H' := Aside0.mk H
                clear H
                go_wp2_with (first | ((with_reducible refine gate_callee (f := 42) rfl ?_); refine goesL_ (some 17) rfl rfl Tryd.func42 (by kernel_rfl) rfl #[.int .i64 x4_1] rfl (by (try simp only [List.map_toArray, List.map_cons, List.map_nil]); first | done | rfl | (simp only [List.length_drop, List.length_take]; rfl)) ?_; (with_reducible refine (strconv_Itoa_42.calls x4_1 t102 _ A8.out (HT.out.below (by repeat (first | (with_reducible first | exact HB.out | apply below_alloc | apply pw_below_drewN | apply below_drew1 | refine below_set ?_ GE101.out) | exact HB.out)))).mono ?_); rintro e w15 ⟨rfl, hb⟩; refine ⟨_, rfl, ?_⟩; have n0_ := Aside0.mk (blk_below (g := gb101) (o := .cells #[.string a0_0, .string a0_1] 41 (0, 0)) (by (with_reducible repeat (first | refine blk_drewN ?_ _ | refine blk_drew ?_ | refine blk_alloc ?_ _)); exact BK101.out) hb); have n1_ := Aside0.mk (below_step (by repeat (first | (with_reducible first | exact HB.out | apply below_alloc | apply pw_below_drewN | apply below_drew1 | refine below_set ?_ GE101.out) | exact HB.out)) hb); clear BK101; clear HB; have BK101 := n0_; have HB := n1_; clear n0_ n1_; (try clear hb); (try clear hb2); (try clear hk); (try clear hi)) | ((with_reducible refine gate_callee (f := 42) rfl ?_); refine goesL_ (some 25) rfl rfl Tryd.func42 (by kernel_rfl) rfl #[.int .i64 x4_1] rfl (by (try simp only [List.map_toArray, List.map_cons, List.map_nil]); first | done | rfl | (simp only [List.length_drop, List.length_take]; rfl)) ?_; (with_reducible refine (strconv_Itoa_42.calls x4_1 t102 _ A14.out (HT.out.below (by repeat (first | (with_reducible first | exact HB.out | apply below_alloc | apply pw_below_drewN | apply below_drew1 | refine below_set ?_ GE101.out) | exact HB.out)))).mono ?_); rintro e w16 ⟨rfl, hb⟩; refine ⟨_, rfl, ?_⟩; have n0_ := Aside0.mk (blk_below (g := gb101) (o := .cells #[.string a0_0, .string a0_1] 41 (0, 0)) (by (with_reducible repeat (first | refine blk_drewN ?_ _ | refine blk_drew ?_ | refine blk_alloc ?_ _)); exact BK101.out) hb); have n1_ := Aside0.mk (below_step (by repeat (first | (with_reducible first | exact HB.out | apply below_alloc | apply pw_below_drewN | apply below_drew1 | refine below_set ?_ GE101.out) | exact HB.out)) hb); clear BK101; clear HB; have BK101 := n0_; have HB := n1_; clear n0_ n1_; (try clear hb); (try clear hb2); (try clear hk); (try clear hi)))
                go_roundg k1
                case measure => have := HK1.out; omega
                case rel => exact ⟨(wrap64 ((t102.size : Int) + (X_.size : Int))), (by first | rfl | (simp; done) | (simp [*]; done)), H', ⟨by have := HK1.out; omega⟩, ⟨by (with_reducible repeat (first | refine blk_drewN ?_ _ | refine blk_drew ?_ | refine blk_alloc ?_ _)); exact BK101.out⟩, ⟨by repeat (first | (with_reducible first | exact HB.out | apply below_alloc | apply pw_below_drewN | apply below_drew1 | refine below_set ?_ GE101.out) | exact HB.out)⟩⟩
        · rw [if_neg c5] at H
          exact absurd H (by simp)
      · rw [if_neg c4] at H
        exact absurd H (by simp)
    · rw [if_neg c3] at H
      exact absurd H (by simp)
  · rw [if_neg c2] at H
    exact absurd H (by simp)

/-! ### pax_first: function 28 -/
mutual
def pax_first.j0 : Nat → ByteArray → ByteArray → Int → Bool → ByteArray → ByteArray → Option (ByteArray × ByteArray × ByteArray × Bool)
  | 0, _, _, _, _, _, _ => none
  | k + 1, x0, x5, x8, x41, x106000, x106001 => if x41 = true then (some (x106000, x106001, x0, false)) else (if 0 ≤ (wrap64 ((x5.size : Int) + 1)) then (if (wrap64 ((x5.size : Int) + 1)) ≤ x8 then (if x8 ≤ (x0.size : Int) then ((strings_Cut.f (x0.extract ((wrap64 ((x5.size : Int) + 1)) : Int).toNat (x8 : Int).toNat) (⟨#[61]⟩ : ByteArray)).bind fun bt112 => (if bt112.2.2 = true then (pax_first.j1 k x0 x8 bt112.1 bt112.2.1 (bt112.2.1.toList == ([] : List UInt8)) x106000 x106001) else (pax_first.j1 k x0 x8 bt112.1 bt112.2.1 true x106000 x106001))) else (none)) else (none)) else (none))
def pax_first.j1 : Nat → ByteArray → Int → ByteArray → ByteArray → Bool → ByteArray → ByteArray → Option (ByteArray × ByteArray × ByteArray × Bool)
  | 0, _, _, _, _, _, _, _ => none
  | k + 1, x0, x8, x10, x11, x60, x106000, x106001 => if x60 = true then (some (x106000, x106001, x0, false)) else (if 0 ≤ (wrap64 ((x11.size : Int) - 1)) then (if (wrap64 ((x11.size : Int) - 1)) ≤ (x11.size : Int) then (if 0 ≤ x8 then (if x8 ≤ (x0.size : Int) then ((pax_Right.f x10 (x11.extract 0 ((wrap64 ((x11.size : Int) - 1)) : Int).toNat)).bind fun t115 => (if t115 = true then ((pax_line.f k x10 (x11.extract 0 ((wrap64 ((x11.size : Int) - 1)) : Int).toNat)).bind fun t116 => (some (x10, x11.extract 0 ((wrap64 ((x11.size : Int) - 1)) : Int).toNat, x0.extract (x8 : Int).toNat x0.size, (t116.toList == (x0.extract 0 (x8 : Int).toNat).toList)))) else (some (x10, x11.extract 0 ((wrap64 ((x11.size : Int) - 1)) : Int).toNat, x0.extract (x8 : Int).toNat x0.size, false)))) else (none)) else (none)) else (none)) else (none))
end
def pax_first.f (k : Nat) (a0 : ByteArray) : Option (ByteArray × ByteArray × ByteArray × Bool) := if 0 ≤ (mn (a0.size : Int) 9) then (if (mn (a0.size : Int) 9) ≤ (a0.size : Int) then ((strings_Cut.f (a0.extract 0 ((mn (a0.size : Int) 9) : Int).toNat) (⟨#[32]⟩ : ByteArray)).bind fun bt106 => ((strconv_Atoi_44.f bt106.1).bind fun bt109 => (if bt109.2.isNone = true then (if bt109.1 ≤ (bt106.1.size : Int) then (pax_first.j0 k a0 bt106.1 bt109.1 true (⟨#[]⟩ : ByteArray) (⟨#[]⟩ : ByteArray)) else (pax_first.j0 k a0 bt106.1 bt109.1 (decide (bt109.1 > (a0.size : Int))) (⟨#[]⟩ : ByteArray) (⟨#[]⟩ : ByteArray))) else (pax_first.j0 k a0 bt106.1 bt109.1 true (⟨#[]⟩ : ByteArray) (⟨#[]⟩ : ByteArray))))) else (none)) else (none)
theorem pax_first.mono_l : ∀ k, (∀ y0 y1 y2 y3 y4 y5, LeO (pax_first.j0 k y0 y1 y2 y3 y4 y5) (pax_first.j0 (k + 1) y0 y1 y2 y3 y4 y5)) ∧ (∀ y0 y1 y2 y3 y4 y5 y6, LeO (pax_first.j1 k y0 y1 y2 y3 y4 y5 y6) (pax_first.j1 (k + 1) y0 y1 y2 y3 y4 y5 y6))
  | 0 => ⟨fun _ _ _ _ _ _ r h => by simp [pax_first.j0] at h, fun _ _ _ _ _ _ _ r h => by simp [pax_first.j1] at h⟩
  | k + 1 => by
    obtain ⟨ih0, ih1⟩ := pax_first.mono_l k
    refine ⟨?_, ?_⟩
    · intro y0 y1 y2 y3 y4 y5
      unfold pax_first.j0
      repeat' first
      | (with_reducible exact ih0 _ _ _ _ _ _)
      | (with_reducible exact ih1 _ _ _ _ _ _ _)
      | (with_reducible exact pax_line.mono _ _ _)
      | (with_reducible exact LeO.refl _)
      | (with_reducible exact LeO.none _)
      | (with_reducible refine LeO.ite ?_ ?_)
      | (with_reducible refine LeO.bind ?_ (fun _ => ?_))
      | exact ih0 _ _ _ _ _ _
      | exact ih1 _ _ _ _ _ _ _
      | exact pax_line.mono _ _ _
      | exact LeO.none _
      | refine LeO.ite ?_ ?_
      | refine LeO.bind ?_ (fun _ => ?_)
    · intro y0 y1 y2 y3 y4 y5 y6
      unfold pax_first.j1
      repeat' first
      | (with_reducible exact ih0 _ _ _ _ _ _)
      | (with_reducible exact ih1 _ _ _ _ _ _ _)
      | (with_reducible exact pax_line.mono _ _ _)
      | (with_reducible exact LeO.refl _)
      | (with_reducible exact LeO.none _)
      | (with_reducible refine LeO.ite ?_ ?_)
      | (with_reducible refine LeO.bind ?_ (fun _ => ?_))
      | exact ih0 _ _ _ _ _ _
      | exact ih1 _ _ _ _ _ _ _
      | exact pax_line.mono _ _ _
      | exact LeO.none _
      | refine LeO.ite ?_ ?_
      | refine LeO.bind ?_ (fun _ => ?_)
theorem pax_first.mono : ∀ a0 k, LeO (pax_first.f k a0) (pax_first.f (k + 1) a0) := by
  intro a0 k
  obtain ⟨ih0, ih1⟩ := pax_first.mono_l k
  unfold pax_first.f
  repeat' first
      | (with_reducible exact ih0 _ _ _ _ _ _)
      | (with_reducible exact ih1 _ _ _ _ _ _ _)
      | (with_reducible exact pax_line.mono _ _ _)
      | (with_reducible exact LeO.refl _)
      | (with_reducible exact LeO.none _)
      | (with_reducible refine LeO.ite ?_ ?_)
      | (with_reducible refine LeO.bind ?_ (fun _ => ?_))
      | exact ih0 _ _ _ _ _ _
      | exact ih1 _ _ _ _ _ _ _
      | exact pax_line.mono _ _ _
      | exact LeO.none _
      | refine LeO.ite ?_ ?_
      | refine LeO.bind ?_ (fun _ => ?_)
def pax_first.T9 : Bool × List (List Nat × List Nat) := (true, [([], []), ([], []), ([], []), ([1, 2], [1, 2]), ([], []), ([4], [4]), ([5, 5], [5]), ([6], [6]), ([7, 6, 6], [6, 7]), ([6], [6]), ([6], [6]), ([9, 10, 6], [6, 9, 10]), ([8, 11, 6], [6, 8, 11]), ([6, 12], [6, 12]), ([0, 8, 0, 4, 7], [0]), ([3, 14, 0, 1, 2, 3, 4, 7, 14], [3]), ([13, 15, 0, 1, 2, 3, 4, 5, 6, 7, 8, 9, 10, 11, 12, 13, 14, 15], [13])])
def pax_first.B9 : List Nat := [0, 0, 0, 6, 0, 16, 48, 112, 240, 112, 112, 1648, 4080, 8176, 497, 16895, 65535]
theorem pax_first.tab9 : rtab .any (opsOf Tryd.f28 9) = pax_first.T9 := by kernel_rfl
theorem pax_first.bits9 : waitsOk pax_first.T9.2 pax_first.B9 = true := by kernel_rfl
set_option maxHeartbeats 8000000 in
set_option maxRecDepth 100000 in
theorem pax_first.calls (k : Nat) (a0 : ByteArray) (r1 : ByteArray) (r2 : ByteArray) (r3 : ByteArray) (r4 : Bool) (w : World) (h : pax_first.f k a0 = some (r1, r2, r3, r4)) (HT_ : Tabs w) :
    Calls Tryd.prog 28 #[.string a0] w fun e w' => e = .returned (.tuple #[.agg #[.string r1, .string r2], .string r3, .bool r4]) ∧ Below w.heap.size w w' := by
  have HT := Aside0.mk HT_
  clear HT_
  have hu41 := Tryd.underlying41
  have hu56 := Tryd.underlying56
  have HB := Aside0.mk (Below.refl w.heap.size w)
  have H : (if 0 ≤ (mn (a0.size : Int) 9) then (if (mn (a0.size : Int) 9) ≤ (a0.size : Int) then ((strings_Cut.f (a0.extract 0 ((mn (a0.size : Int) 9) : Int).toNat) (⟨#[32]⟩ : ByteArray)).bind fun bt106 => ((strconv_Atoi_44.f bt106.1).bind fun bt109 => (if bt109.2.isNone = true then (if bt109.1 ≤ (bt106.1.size : Int) then (pax_first.j0 k a0 bt106.1 bt109.1 true (⟨#[]⟩ : ByteArray) (⟨#[]⟩ : ByteArray)) else (pax_first.j0 k a0 bt106.1 bt109.1 (decide (bt109.1 > (a0.size : Int))) (⟨#[]⟩ : ByteArray) (⟨#[]⟩ : ByteArray))) else (pax_first.j0 k a0 bt106.1 bt109.1 true (⟨#[]⟩ : ByteArray) (⟨#[]⟩ : ByteArray))))) else (none)) else (none)) = some (r1, r2, r3, r4) := h
  clear h
  obtain ⟨ji2, hji2⟩ : ∃ j_ : Int, (mn (a0.size : Int) 9) = j_ := ⟨_, rfl⟩
  replace H : (if 0 ≤ (ji2) then (if (ji2) ≤ (a0.size : Int) then ((strings_Cut.f (a0.extract 0 ((ji2) : Int).toNat) (⟨#[32]⟩ : ByteArray)).bind fun bt106 => ((strconv_Atoi_44.f bt106.1).bind fun bt109 => (if bt109.2.isNone = true then (if bt109.1 ≤ (bt106.1.size : Int) then (pax_first.j0 k a0 bt106.1 bt109.1 true (⟨#[]⟩ : ByteArray) (⟨#[]⟩ : ByteArray)) else (pax_first.j0 k a0 bt106.1 bt109.1 (decide (bt109.1 > (a0.size : Int))) (⟨#[]⟩ : ByteArray) (⟨#[]⟩ : ByteArray))) else (pax_first.j0 k a0 bt106.1 bt109.1 true (⟨#[]⟩ : ByteArray) (⟨#[]⟩ : ByteArray))))) else (none)) else (none)) = some (r1, r2, r3, r4) := by first | (rw [hji2] at H; exact H) | (simp only [hji2] at H ⊢; exact H)
  (try (have hji2h : ji2 ≤ 9 := by (rw [← hji2]; unfold mn; (repeat' split) <;> omega)))
  (try (have hji2g : ji2 ≤ 64 := by omega))
  (try (have hji2l : 0 ≤ ji2 := by (rw [← hji2]; unfold mn; (repeat' split) <;> omega)))
  (try (have hji2m : 0 ≤ ji2 := by omega))
  have hji2_ : (if 9 < (a0.size : Int) then 9 else (a0.size : Int)) = ji2 := hji2
  by_cases c3 : 0 ≤ (ji2)
  · rw [if_pos c3] at H
    have c3b0 := eq_true c3
    have c3b1 : decide (0 ≤ (ji2)) = true := decide_eq_true c3
    clear c3
    by_cases c4 : (ji2) ≤ (a0.size : Int)
    · rw [if_pos c4] at H
      have c4b0 := eq_true c4
      have c4b1 : decide ((ji2) ≤ (a0.size : Int)) = true := decide_eq_true c4
      clear c4
      replace H := Option.bind_eq_some_iff.mp H
      obtain ⟨⟨t106, t107, t108⟩, A50, H⟩ := H
      replace H : ((strconv_Atoi_44.f t106).bind fun bt109 => (if bt109.2.isNone = true then (if bt109.1 ≤ (t106.size : Int) then (pax_first.j0 k a0 t106 bt109.1 true (⟨#[]⟩ : ByteArray) (⟨#[]⟩ : ByteArray)) else (pax_first.j0 k a0 t106 bt109.1 (decide (bt109.1 > (a0.size : Int))) (⟨#[]⟩ : ByteArray) (⟨#[]⟩ : ByteArray))) else (pax_first.j0 k a0 t106 bt109.1 true (⟨#[]⟩ : ByteArray) (⟨#[]⟩ : ByteArray)))) = some (r1, r2, r3, r4) := H
      have A5 := Aside0.mk A50
      clear A50
      replace H := Option.bind_eq_some_iff.mp H
      obtain ⟨⟨t109, t110⟩, A60, H⟩ := H
      replace H : (if t110.isNone = true then (if t109 ≤ (t106.size : Int) then (pax_first.j0 k a0 t106 t109 true (⟨#[]⟩ : ByteArray) (⟨#[]⟩ : ByteArray)) else (pax_first.j0 k a0 t106 t109 (decide (t109 > (a0.size : Int))) (⟨#[]⟩ : ByteArray) (⟨#[]⟩ : ByteArray))) else (pax_first.j0 k a0 t106 t109 true (⟨#[]⟩ : ByteArray) (⟨#[]⟩ : ByteArray))) = some (r1, r2, r3, r4) := H
      have A6 := Aside0.mk A60
      clear A60
      have HC7 := Aside0.mk H
      clear H
      go_enter Tryd.func28, Tryd.ntmps28
      go_upto_region 3 with (first | ((with_reducible refine gate_dst (N := 2) rfl ?_); (try (refine gate_guard (by rfl) ?_; dsimp only)); refine box_event ?hg (N := 2) ?hd (cs := #[.string (⟨#[]⟩ : ByteArray), .string (⟨#[]⟩ : ByteArray)]) (t := 41) ?hr ?_; (case hd => rfl); (case hg => rfl); (case hr => first | (go_simp; done) | (go_simp; rfl)); intro gb105 hg w8 hbox hb; have n0_ := Aside0.mk (below_step (by repeat (first | (with_reducible first | exact HB.out | apply below_alloc | apply pw_below_drewN | apply below_drew1) | exact HB.out)) hb); have n1_ := Aside0.mk (hbox); have n2_ := Aside0.mk ((by rw [hg]; exact (below_size (by repeat (first | (with_reducible first | exact HB.out | apply below_alloc | apply pw_below_drewN | apply below_drew1) | exact HB.out))) : w.heap.size ≤ gb105)); have n3_ := Aside0.mk ((by rw [hg]; exact (below_size (by repeat (first | (with_reducible first | exact HB.out | apply below_alloc | apply pw_below_drewN | apply below_drew1) | exact HB.out))) : w.heap.size ≤ gb105)); clear HB; have HB := n0_; have BK105 := n1_; have GW105 := n2_; have GE105 := n3_; clear n0_ n1_ n2_ n3_; clear hb hbox hg) | ((with_reducible refine gate_callee (f := 43) rfl ?_); refine goesL_ (some 19) rfl rfl Tryd.func43 (by kernel_rfl) rfl #[.string (a0.extract 0 ((ji2) : Int).toNat), .string (⟨#[32]⟩ : ByteArray)] rfl (by (try simp only [List.map_toArray, List.map_cons, List.map_nil]); first | done | (simp only [hji2]; rfl) | rfl | (simp only [List.length_drop, List.length_take]; rfl)) ?_; (with_reducible refine (strings_Cut.calls (a0.extract 0 ((ji2) : Int).toNat) (⟨#[32]⟩ : ByteArray) t106 t107 t108 _ A5.out).mono ?_); rintro e w9 ⟨rfl, hb⟩; refine ⟨_, rfl, ?_⟩; have n0_ := Aside0.mk (blk_below (g := gb105) (o := .cells #[.string (⟨#[]⟩ : ByteArray), .string (⟨#[]⟩ : ByteArray)] 41 (0, 0)) (by (with_reducible repeat (first | refine blk_drewN ?_ _ | refine blk_drew ?_ | refine blk_alloc ?_ _)); exact BK105.out) hb); have n1_ := Aside0.mk (below_step (by repeat (first | (with_reducible first | exact HB.out | apply below_alloc | apply pw_below_drewN | apply below_drew1 | refine below_set ?_ GE105.out) | exact HB.out)) hb); clear BK105; clear HB; have BK105 := n0_; have HB := n1_; clear n0_ n1_; (try clear hb); (try clear hb2); (try clear hk); (try clear hi)) | ((with_reducible refine gate_callee (f := 44) rfl ?_); refine goesL_ (some 25) rfl rfl Tryd.func44 (by kernel_rfl) rfl #[.string t106] rfl (by (try simp only [List.map_toArray, List.map_cons, List.map_nil]); first | done | rfl | (simp only [List.length_drop, List.length_take]; rfl)) ?_; (with_reducible refine (strconv_Atoi_44.calls t106 t109 t110 _ A6.out (HT.out.below (by repeat (first | (with_reducible first | exact HB.out | apply below_alloc | apply pw_below_drewN | apply below_drew1 | refine below_set ?_ GE105.out) | exact HB.out)))).mono ?_); rintro e w10 ⟨ev_, hev_, rfl, hb⟩; refine ⟨_, rfl, ?_⟩; have n0_ := Aside0.mk (blk_below (g := gb105) (o := .cells #[.string (⟨#[]⟩ : ByteArray), .string (⟨#[]⟩ : ByteArray)] 41 (0, 0)) (by (with_reducible repeat (first | refine blk_drewN ?_ _ | refine blk_drew ?_ | refine blk_alloc ?_ _)); exact BK105.out) hb); have n1_ := Aside0.mk (below_step (by repeat (first | (with_reducible first | exact HB.out | apply below_alloc | apply pw_below_drewN | apply below_drew1 | refine below_set ?_ GE105.out) | exact HB.out)) hb); clear BK105; clear HB; have BK105 := n0_; have HB := n1_; clear n0_ n1_; (try clear hb); (try clear hb2); (try clear hk); (try clear hi); (try simp only [errW_none, errW_some])))
      (try simp only [Act.put, List.setIfInBounds_toArray, List.set_cons_zero, List.set_cons_succ])
      go_cut [41] (fun v41 wc => ∃ (kq : Nat) (x41_6 : Bool), v41 = .bool x41_6 ∧ Aside0 (pax_first.j0 kq a0 t106 t109 x41_6 (⟨#[]⟩ : ByteArray) (⟨#[]⟩ : ByteArray) = some (r1, r2, r3, r4)) ∧ Aside0 (kq ≤ k) ∧ Aside0 (wc.heap[gb105]? = some (.cells #[.string (⟨#[]⟩ : ByteArray), .string (⟨#[]⟩ : ByteArray)] 41 (0, 0))) ∧ Aside0 (Below w.heap.size w wc))
      case first =>
        have H := HC7.out
        clear HC7
        rcases t110 with _ | q111
        · obtain rfl : ev_ = .nilIface := hev_
          have H1 : (if t109 ≤ (t106.size : Int) then (pax_first.j0 k a0 t106 t109 true (⟨#[]⟩ : ByteArray) (⟨#[]⟩ : ByteArray)) else (pax_first.j0 k a0 t106 t109 (decide (t109 > (a0.size : Int))) (⟨#[]⟩ : ByteArray) (⟨#[]⟩ : ByteArray))) = some (r1, r2, r3, r4) := by rw [if_pos (show (none : Option Int).isNone = true by rfl)] at H; exact H
          clear H
          have H := H1
          clear H1
          try simp only [errW_none, errW_some]
          by_cases c11 : t109 ≤ (t106.size : Int)
          · rw [if_pos c11] at H
            have c11b0 : decide (t109 ≤ (t106.size : Int)) = true := decide_eq_true c11
            clear c11
            (first | rw [c11b0] | (simp only [i64_w, i32_w]; rw [c11b0]) | skip)
            have H' := Aside0.mk H
            clear H
            go_wp2
            go_meet
            case rel => exact ⟨_, (true), (by first | rfl | (simp; done) | (simp [*]; done)), H', ⟨by first | omega | exact Nat.le_refl _⟩, ⟨by (with_reducible repeat (first | refine blk_drewN ?_ _ | refine blk_drew ?_ | refine blk_alloc ?_ _)); exact BK105.out⟩, ⟨by repeat (first | (with_reducible first | exact HB.out | apply below_alloc | apply pw_below_drewN | apply below_drew1 | refine below_set ?_ GE105.out) | exact HB.out)⟩⟩
          · rw [if_neg c11] at H
            have c11b0 : decide (t109 ≤ (t106.size : Int)) = false := decide_eq_false c11
            clear c11
            (first | rw [c11b0] | (simp only [i64_w, i32_w]; rw [c11b0]) | skip)
            have H' := Aside0.mk H
            clear H
            go_wp2
            go_meet
            case rel => exact ⟨_, (decide (t109 > (a0.size : Int))), (by first | rfl | (simp; done) | (simp [*]; done)), H', ⟨by first | omega | exact Nat.le_refl _⟩, ⟨by (with_reducible repeat (first | refine blk_drewN ?_ _ | refine blk_drew ?_ | refine blk_alloc ?_ _)); exact BK105.out⟩, ⟨by repeat (first | (with_reducible first | exact HB.out | apply below_alloc | apply pw_below_drewN | apply below_drew1 | refine below_set ?_ GE105.out) | exact HB.out)⟩⟩
        · obtain ⟨T_, p_, rfl⟩ : ∃ T_ p_, ev_ = .iface T_ p_ := hev_
          have H1 : (pax_first.j0 k a0 t106 t109 true (⟨#[]⟩ : ByteArray) (⟨#[]⟩ : ByteArray)) = some (r1, r2, r3, r4) := by rw [if_neg (show ¬ (some q111).isNone = true by simp)] at H; exact H
          clear H
          have H := H1
          clear H1
          try simp only [errW_none, errW_some]
          have H' := Aside0.mk H
          clear H
          go_wp2
          go_meet
          case rel => exact ⟨_, (true), (by first | rfl | (simp; done) | (simp [*]; done)), H', ⟨by first | omega | exact Nat.le_refl _⟩, ⟨by (with_reducible repeat (first | refine blk_drewN ?_ _ | refine blk_drew ?_ | refine blk_alloc ?_ _)); exact BK105.out⟩, ⟨by repeat (first | (with_reducible first | exact HB.out | apply below_alloc | apply pw_below_drewN | apply below_drew1 | refine below_set ?_ GE105.out) | exact HB.out)⟩⟩
      case rest =>
        clear HC7
        try clear c1
        try clear q1
        try clear c2
        try clear p2
        try clear c3
        try clear c3b0
        try clear c3b1
        try clear c4
        try clear c4b0
        try clear c4b1
        try clear c11
        try clear c11b0
        try clear q11
        try clear q111
        obtain ⟨kq, x41_6, rfl, HA, HJ6, BK105, HB⟩ := hcut
        cases kq with
        | zero => exact absurd HA.out (by simp [pax_first.j0])
        | succ kj6 =>
          have H := HA.out
          clear HA
          simp only [pax_first.j0] at H
          by_cases c12 : x41_6 = true
          · subst c12
            have H1 : (some ((⟨#[]⟩ : ByteArray), (⟨#[]⟩ : ByteArray), a0, false)) = some (r1, r2, r3, r4) := by rw [if_pos rfl] at H; exact H
            clear H
            have H := H1
            clear H1
            simp only [Option.some.injEq, Prod.mk.injEq] at H
            obtain ⟨rfl, rfl, rfl, rfl⟩ := H
            have hcz13_0 : wc.cell? ⟨gb105, 0, none⟩ = some (.string (⟨#[]⟩ : ByteArray)) := (blk_cell BK105.out 0).trans rfl
            have hcz13_1 : wc.cell? ⟨gb105, 1, none⟩ = some (.string (⟨#[]⟩ : ByteArray)) := (blk_cell BK105.out 1).trans rfl
            have hfz13_0 := blk_frozen BK105.out 0
            have hfz13_1 := blk_frozen BK105.out 1
            go_wp2
            refine bodyPost_ret (results_ctt rfl _ _ gb105 41 #[.string (⟨#[]⟩ : ByteArray), .string (⟨#[]⟩ : ByteArray)] (0, 0) _ rfl (by (with_reducible repeat (first | refine blk_drewN ?_ _ | refine blk_drew ?_ | refine blk_alloc ?_ _)); refine blk_put (cs := #[.string (⟨#[]⟩ : ByteArray), .string (⟨#[]⟩ : ByteArray)]) ?_ 1 _ rfl; (with_reducible repeat (first | refine blk_drewN ?_ _ | refine blk_drew ?_ | refine blk_alloc ?_ _)); refine blk_put (cs := #[.string (⟨#[]⟩ : ByteArray), .string (⟨#[]⟩ : ByteArray)]) ?_ 0 _ rfl; (with_reducible repeat (first | refine blk_drewN ?_ _ | refine blk_drew ?_ | refine blk_alloc ?_ _)); exact BK105.out) Tryd.underlying41 rfl (by kernel_rfl)) rfl ?_
            exact ⟨by first | rfl | (simp [errW_none, errW_some] <;> rfl) | (simp only [← hji2]; first | rfl | (simp [errW_none, errW_some] <;> rfl)) | (simp [*, errW_none, errW_some] <;> rfl), by repeat (first | (with_reducible first | exact HB.out | apply below_alloc | apply pw_below_drewN | apply below_drew1 | refine below_set ?_ GE105.out) | exact HB.out)⟩
          · replace c12 := Bool.eq_false_iff.mpr c12
            subst c12
            have H1 : (if 0 ≤ (wrap64 ((t106.size : Int) + 1)) then (if (wrap64 ((t106.size : Int) + 1)) ≤ t109 then (if t109 ≤ (a0.size : Int) then ((strings_Cut.f (a0.extract ((wrap64 ((t106.size : Int) + 1)) : Int).toNat (t109 : Int).toNat) (⟨#[61]⟩ : ByteArray)).bind fun bt112 => (if bt112.2.2 = true then (pax_first.j1 kj6 a0 t109 bt112.1 bt112.2.1 (bt112.2.1.toList == ([] : List UInt8)) (⟨#[]⟩ : ByteArray) (⟨#[]⟩ : ByteArray)) else (pax_first.j1 kj6 a0 t109 bt112.1 bt112.2.1 true (⟨#[]⟩ : ByteArray) (⟨#[]⟩ : ByteArray)))) else (none)) else (none)) else (none)) = some (r1, r2, r3, r4) := by rw [if_neg (show ¬ (false = true) by decide)] at H; exact H
            clear H
            have H := H1
            clear H1
            obtain ⟨ji14, hji14⟩ : ∃ j_ : Int, (wrap64 ((t106.size : Int) + 1)) = j_ := ⟨_, rfl⟩
            replace H : (if 0 ≤ (ji14) then (if (ji14) ≤ t109 then (if t109 ≤ (a0.size : Int) then ((strings_Cut.f (a0.extract ((ji14) : Int).toNat (t109 : Int).toNat) (⟨#[61]⟩ : ByteArray)).bind fun bt112 => (if bt112.2.2 = true then (pax_first.j1 kj6 a0 t109 bt112.1 bt112.2.1 (bt112.2.1.toList == ([] : List UInt8)) (⟨#[]⟩ : ByteArray) (⟨#[]⟩ : ByteArray)) else (pax_first.j1 kj6 a0 t109 bt112.1 bt112.2.1 true (⟨#[]⟩ : ByteArray) (⟨#[]⟩ : ByteArray)))) else (none)) else (none)) else (none)) = some (r1, r2, r3, r4) := by first | (rw [hji14] at H; exact H) | (simp only [hji14] at H ⊢; exact H)
            have hji14w : (IntKind.i64.wrap ((t106.size : Int) + 1)) = ji14 := (i64_w _).trans hji14
            by_cases c15 : 0 ≤ (ji14)
            · rw [if_pos c15] at H
              have c15b0 := eq_true c15
              have c15b1 : decide (0 ≤ (ji14)) = true := decide_eq_true c15
              clear c15
              by_cases c16 : (ji14) ≤ t109
              · rw [if_pos c16] at H
                have c16b0 := eq_true c16
                have c16b1 : decide ((ji14) ≤ t109) = true := decide_eq_true c16
                clear c16
                by_cases c17 : t109 ≤ (a0.size : Int)
                · rw [if_pos c17] at H
                  have c17b0 := eq_true c17
                  have c17b1 : decide (t109 ≤ (a0.size : Int)) = true := decide_eq_true c17
                  clear c17
                  replace H := Option.bind_eq_some_iff.mp H
                  obtain ⟨⟨t112, t113, t114⟩, A180, H⟩ := H
                  replace H : (if t114 = true then (pax_first.j1 kj6 a0 t109 t112 t113 (t113.toList == ([] : List UInt8)) (⟨#[]⟩ : ByteArray) (⟨#[]⟩ : ByteArray)) else (pax_first.j1 kj6 a0 t109 t112 t113 true (⟨#[]⟩ : ByteArray) (⟨#[]⟩ : ByteArray))) = some (r1, r2, r3, r4) := H
                  have A18 := Aside0.mk A180
                  clear A180
                  have HC19 := Aside0.mk H
                  clear H
                  go_upto_region 6 with (first | ((with_reducible refine gate_callee (f := 43) rfl ?_); refine goesL_ (some 51) rfl rfl Tryd.func43 (by kernel_rfl) rfl #[.string (a0.extract ((ji14) : Int).toNat (t109 : Int).toNat), .string (⟨#[61]⟩ : ByteArray)] rfl (by (try simp only [List.map_toArray, List.map_cons, List.map_nil]); first | done | (simp only [hji14]; rfl) | rfl | (simp only [List.length_drop, List.length_take]; rfl)) ?_; (with_reducible refine (strings_Cut.calls (a0.extract ((ji14) : Int).toNat (t109 : Int).toNat) (⟨#[61]⟩ : ByteArray) t112 t113 t114 _ A18.out).mono ?_); rintro e w20 ⟨rfl, hb⟩; refine ⟨_, rfl, ?_⟩; have n0_ := Aside0.mk (blk_below (g := gb105) (o := .cells #[.string (⟨#[]⟩ : ByteArray), .string (⟨#[]⟩ : ByteArray)] 41 (0, 0)) (by (with_reducible repeat (first | refine blk_drewN ?_ _ | refine blk_drew ?_ | refine blk_alloc ?_ _)); exact BK105.out) hb); have n1_ := Aside0.mk (below_step (by repeat (first | (with_reducible first | exact HB.out | apply below_alloc | apply pw_below_drewN | apply below_drew1 | refine below_set ?_ GE105.out) | exact HB.out)) hb); clear BK105; clear HB; have BK105 := n0_; have HB := n1_; clear n0_ n1_; (try clear hb); (try clear hb2); (try clear hk); (try clear hi)))
                  (try simp only [Act.put, List.setIfInBounds_toArray, List.set_cons_zero, List.set_cons_succ])
                  go_cut [60] (fun v60 wc => ∃ (kq : Nat) (x60_18 : Bool), v60 = .bool x60_18 ∧ Aside0 (pax_first.j1 kq a0 t109 t112 t113 x60_18 (⟨#[]⟩ : ByteArray) (⟨#[]⟩ : ByteArray) = some (r1, r2, r3, r4)) ∧ Aside0 (kq ≤ kj6) ∧ Aside0 (wc.heap[gb105]? = some (.cells #[.string (⟨#[]⟩ : ByteArray), .string (⟨#[]⟩ : ByteArray)] 41 (0, 0))) ∧ Aside0 (Below w.heap.size w wc))
                  case first =>
                    have H := HC19.out
                    clear HC19
                    by_cases c21 : t114 = true
                    · subst c21
                      have H1 : (pax_first.j1 kj6 a0 t109 t112 t113 (t113.toList == ([] : List UInt8)) (⟨#[]⟩ : ByteArray) (⟨#[]⟩ : ByteArray)) = some (r1, r2, r3, r4) := by rw [if_pos rfl] at H; exact H
                      clear H
                      have H := H1
                      clear H1
                      have H' := Aside0.mk H
                      clear H
                      go_wp2
                      go_meet
                      case rel => exact ⟨_, ((t113.toList == ([] : List UInt8))), (by first | rfl | (simp; done) | (simp [*]; done)), H', ⟨by have := HJ6.out; first | omega | exact Nat.le_refl _⟩, ⟨by (with_reducible repeat (first | refine blk_drewN ?_ _ | refine blk_drew ?_ | refine blk_alloc ?_ _)); exact BK105.out⟩, ⟨by repeat (first | (with_reducible first | exact HB.out | apply below_alloc | apply pw_below_drewN | apply below_drew1 | refine below_set ?_ GE105.out) | exact HB.out)⟩⟩
                    · replace c21 := Bool.eq_false_iff.mpr c21
                      subst c21
                      have H1 : (pax_first.j1 kj6 a0 t109 t112 t113 true (⟨#[]⟩ : ByteArray) (⟨#[]⟩ : ByteArray)) = some (r1, r2, r3, r4) := by rw [if_neg (show ¬ (false = true) by decide)] at H; exact H
                      clear H
                      have H := H1
                      clear H1
                      have H' := Aside0.mk H
                      clear H
                      go_wp2
                      go_meet
                      case rel => exact ⟨_, (true), (by first | rfl | (simp; done) | (simp [*]; done)), H', ⟨by have := HJ6.out; first | omega | exact Nat.le_refl _⟩, ⟨by (with_reducible repeat (first | refine blk_drewN ?_ _ | refine blk_drew ?_ | refine blk_alloc ?_ _)); exact BK105.out⟩, ⟨by repeat (first | (with_reducible first | exact HB.out | apply below_alloc | apply pw_below_drewN | apply below_drew1 | refine below_set ?_ GE105.out) | exact HB.out)⟩⟩
                  case rest =>
                    clear HC19
                    try clear c1
                    try clear q1
                    try clear c2
                    try clear p2
                    try clear c3
                    try clear c3b0
                    try clear c3b1
                    try clear c4
                    try clear c4b0
                    try clear c4b1
                    try clear p6
                    try clear c11
                    try clear c11b0
                    try clear q11
                    try clear c12
                    try clear c15
                    try clear c15b0
                    try clear c15b1
                    try clear c16
                    try clear c16b0
                    try clear c16b1
                    try clear c17
                    try clear c17b0
                    try clear c17b1
                    try clear c21
                    try clear hcz13_0
                    try clear hcz13_1
                    try clear hfz13_0
                    try clear hfz13_1
                    try clear p2
                    try clear q1
                    try clear q11
                    try clear q111
                    obtain ⟨kq, x60_18, rfl, HA, HJ18, BK105, HB⟩ := hcut
                    cases kq with
                    | zero => exact absurd HA.out (by simp [pax_first.j1])
                    | succ kj18 =>
                      have H := HA.out
                      clear HA
                      simp only [pax_first.j1] at H
                      by_cases c22 : x60_18 = true
                      · subst c22
                        have H1 : (some ((⟨#[]⟩ : ByteArray), (⟨#[]⟩ : ByteArray), a0, false)) = some (r1, r2, r3, r4) := by rw [if_pos rfl] at H; exact H
                        clear H
                        have H := H1
                        clear H1
                        simp only [Option.some.injEq, Prod.mk.injEq] at H
                        obtain ⟨rfl, rfl, rfl, rfl⟩ := H
                        have hcz23_0 : wc.cell? ⟨gb105, 0, none⟩ = some (.string (⟨#[]⟩ : ByteArray)) := (blk_cell BK105.out 0).trans rfl
                        have hcz23_1 : wc.cell? ⟨gb105, 1, none⟩ = some (.string (⟨#[]⟩ : ByteArray)) := (blk_cell BK105.out 1).trans rfl
                        have hfz23_0 := blk_frozen BK105.out 0
                        have hfz23_1 := blk_frozen BK105.out 1
                        go_wp2
                        refine bodyPost_ret (results_ctt rfl _ _ gb105 41 #[.string (⟨#[]⟩ : ByteArray), .string (⟨#[]⟩ : ByteArray)] (0, 0) _ rfl (by (with_reducible repeat (first | refine blk_drewN ?_ _ | refine blk_drew ?_ | refine blk_alloc ?_ _)); refine blk_put (cs := #[.string (⟨#[]⟩ : ByteArray), .string (⟨#[]⟩ : ByteArray)]) ?_ 1 _ rfl; (with_reducible repeat (first | refine blk_drewN ?_ _ | refine blk_drew ?_ | refine blk_alloc ?_ _)); refine blk_put (cs := #[.string (⟨#[]⟩ : ByteArray), .string (⟨#[]⟩ : ByteArray)]) ?_ 0 _ rfl; (with_reducible repeat (first | refine blk_drewN ?_ _ | refine blk_drew ?_ | refine blk_alloc ?_ _)); exact BK105.out) Tryd.underlying41 rfl (by kernel_rfl)) rfl ?_
                        exact ⟨by first | rfl | (simp [errW_none, errW_some] <;> rfl) | (simp only [← hji2, ← hji14]; first | rfl | (simp [errW_none, errW_some] <;> rfl)) | (simp [*, errW_none, errW_some] <;> rfl), by repeat (first | (with_reducible first | exact HB.out | apply below_alloc | apply pw_below_drewN | apply below_drew1 | refine below_set ?_ GE105.out) | exact HB.out)⟩
                      · replace c22 := Bool.eq_false_iff.mpr c22
                        subst c22
                        have H1 : (if 0 ≤ (wrap64 ((t113.size : Int) - 1)) then (if (wrap64 ((t113.size : Int) - 1)) ≤ (t113.size : Int) then (if 0 ≤ t109 then (if t109 ≤ (a0.size : Int) then ((pax_Right.f t112 (t113.extract 0 ((wrap64 ((t113.size : Int) - 1)) : Int).toNat)).bind fun t115 => (if t115 = true then ((pax_line.f kj18 t112 (t113.extract 0 ((wrap64 ((t113.size : Int) - 1)) : Int).toNat)).bind fun t116 => (some (t112, t113.extract 0 ((wrap64 ((t113.size : Int) - 1)) : Int).toNat, a0.extract (t109 : Int).toNat a0.size, (t116.toList == (a0.extract 0 (t109 : Int).toNat).toList)))) else (some (t112, t113.extract 0 ((wrap64 ((t113.size : Int) - 1)) : Int).toNat, a0.extract (t109 : Int).toNat a0.size, false)))) else (none)) else (none)) else (none)) else (none)) = some (r1, r2, r3, r4) := by rw [if_neg (show ¬ (false = true) by decide)] at H; exact H
                        clear H
                        have H := H1
                        clear H1
                        obtain ⟨ji24, hji24⟩ : ∃ j_ : Int, (wrap64 ((t113.size : Int) - 1)) = j_ := ⟨_, rfl⟩
                        replace H : (if 0 ≤ (ji24) then (if (ji24) ≤ (t113.size : Int) then (if 0 ≤ t109 then (if t109 ≤ (a0.size : Int) then ((pax_Right.f t112 (t113.extract 0 ((ji24) : Int).toNat)).bind fun t115 => (if t115 = true then ((pax_line.f kj18 t112 (t113.extract 0 ((ji24) : Int).toNat)).bind fun t116 => (some (t112, t113.extract 0 ((ji24) : Int).toNat, a0.extract (t109 : Int).toNat a0.size, (t116.toList == (a0.extract 0 (t109 : Int).toNat).toList)))) else (some (t112, t113.extract 0 ((ji24) : Int).toNat, a0.extract (t109 : Int).toNat a0.size, false)))) else (none)) else (none)) else (none)) else (none)) = some (r1, r2, r3, r4) := by first | (rw [hji24] at H; exact H) | (simp only [hji24] at H ⊢; exact H)
                        have hji24w : (IntKind.i64.wrap ((t113.size : Int) - 1)) = ji24 := (i64_w _).trans hji24
                        by_cases c25 : 0 ≤ (ji24)
                        · rw [if_pos c25] at H
                          have c25b0 := eq_true c25
                          have c25b1 : decide (0 ≤ (ji24)) = true := decide_eq_true c25
                          clear c25
                          by_cases c26 : (ji24) ≤ (t113.size : Int)
                          · rw [if_pos c26] at H
                            have c26b0 := eq_true c26
                            have c26b1 : decide ((ji24) ≤ (t113.size : Int)) = true := decide_eq_true c26
                            clear c26
                            by_cases c27 : 0 ≤ t109
                            · rw [if_pos c27] at H
                              have c27b0 := eq_true c27
                              have c27b1 : decide (0 ≤ t109) = true := decide_eq_true c27
                              clear c27
                              by_cases c28 : t109 ≤ (a0.size : Int)
                              · rw [if_pos c28] at H
                                have c28b0 := eq_true c28
                                have c28b1 : decide (t109 ≤ (a0.size : Int)) = true := decide_eq_true c28
                                clear c28
                                replace H := Option.bind_eq_some_iff.mp H
                                obtain ⟨t115, A290, H⟩ := H
                                replace H : (if t115 = true then ((pax_line.f kj18 t112 (t113.extract 0 ((ji24) : Int).toNat)).bind fun t116 => (some (t112, t113.extract 0 ((ji24) : Int).toNat, a0.extract (t109 : Int).toNat a0.size, (t116.toList == (a0.extract 0 (t109 : Int).toNat).toList)))) else (some (t112, t113.extract 0 ((ji24) : Int).toNat, a0.extract (t109 : Int).toNat a0.size, false))) = some (r1, r2, r3, r4) := H
                                have A29 := Aside0.mk A290
                                clear A290
                                by_cases c30 : t115 = true
                                · subst c30
                                  have H1 : ((pax_line.f kj18 t112 (t113.extract 0 ((ji24) : Int).toNat)).bind fun t116 => (some (t112, t113.extract 0 ((ji24) : Int).toNat, a0.extract (t109 : Int).toNat a0.size, (t116.toList == (a0.extract 0 (t109 : Int).toNat).toList)))) = some (r1, r2, r3, r4) := by rw [if_pos rfl] at H; exact H
                                  clear H
                                  have H := H1
                                  clear H1
                                  replace H := Option.bind_eq_some_iff.mp H
                                  obtain ⟨t116, A310, H⟩ := H
                                  replace H : (some (t112, t113.extract 0 ((ji24) : Int).toNat, a0.extract (t109 : Int).toNat a0.size, (t116.toList == (a0.extract 0 (t109 : Int).toNat).toList))) = some (r1, r2, r3, r4) := H
                                  have A31 := Aside0.mk A310
                                  clear A310
                                  have c32b0 := eq_true (of_decide_eq_true (by first | (with_reducible assumption) | assumption) : 0 ≤ t109)
                                  have c33b0 := eq_true (of_decide_eq_true (by first | (with_reducible assumption) | assumption) : t109 ≤ (a0.size : Int))
                                  simp only [Option.some.injEq, Prod.mk.injEq] at H
                                  obtain ⟨rfl, rfl, rfl, rfl⟩ := H
                                  have hcz34_0 : wc.cell? ⟨gb105, 0, none⟩ = some (.string (⟨#[]⟩ : ByteArray)) := (blk_cell BK105.out 0).trans rfl
                                  have hcz34_1 : wc.cell? ⟨gb105, 1, none⟩ = some (.string (⟨#[]⟩ : ByteArray)) := (blk_cell BK105.out 1).trans rfl
                                  have hfz34_0 := blk_frozen BK105.out 0
                                  have hfz34_1 := blk_frozen BK105.out 1
                                  try go_wp2
                                  have n0_ : Aside0 (((wc.setCell ⟨gb105, 0, none⟩ (.string t112)).setCell ⟨gb105, 1, none⟩ (.string (t113.extract 0 ((ji24) : Int).toNat))).heap[gb105]? = some (.cells #[.string t112, .string (t113.extract 0 ((ji24) : Int).toNat)] 41 (0, 0))) := ⟨by (with_reducible repeat (first | refine blk_drewN ?_ _ | refine blk_drew ?_ | refine blk_alloc ?_ _)); refine blk_put (cs := #[.string t112, .string (⟨#[]⟩ : ByteArray)]) ?_ 1 _ rfl; (with_reducible repeat (first | refine blk_drewN ?_ _ | refine blk_drew ?_ | refine blk_alloc ?_ _)); refine blk_put (cs := #[.string (⟨#[]⟩ : ByteArray), .string (⟨#[]⟩ : ByteArray)]) ?_ 0 _ rfl; (with_reducible repeat (first | refine blk_drewN ?_ _ | refine blk_drew ?_ | refine blk_alloc ?_ _)); exact BK105.out⟩
                                  have n1_ : Aside0 (Below w.heap.size w ((wc.setCell ⟨gb105, 0, none⟩ (.string t112)).setCell ⟨gb105, 1, none⟩ (.string (t113.extract 0 ((ji24) : Int).toNat)))) := ⟨by repeat (first | (with_reducible first | exact HB.out | apply below_alloc | apply pw_below_drewN | apply below_drew1 | refine below_set ?_ GE105.out) | exact HB.out)⟩
                                  (try clear BK105)
                                  (try clear HB)
                                  generalize ((wc.setCell ⟨gb105, 0, none⟩ (.string t112)).setCell ⟨gb105, 1, none⟩ (.string (t113.extract 0 ((ji24) : Int).toNat))) = w35 at n0_ n1_ ⊢
                                  have BK105 := n0_
                                  have HB := n1_
                                  clear n0_ n1_
                                  have n0_ := Aside0.mk (blk_drew BK105.out)
                                  have n1_ := Aside0.mk (below_drew1 HB.out)
                                  clear BK105
                                  clear HB
                                  have BK105 := n0_
                                  have HB := n1_
                                  clear n0_ n1_
                                  refine start_ (n := 17) (S := fun w' => w'.cell? ⟨gb105, 0, none⟩ = some (.string t112) ∧ w'.cell? ⟨gb105, 1, none⟩ = some (.string (t113.extract 0 ((ji24) : Int).toNat))) (ds := [14]) #[false, false, false, false, false, false, false, false, false, false, false, false, false, false, false, false, false] (by kernel_rfl) rfl rfl ⟨(blk_cell BK105.out 0).trans rfl, (blk_cell BK105.out 1).trans rfl⟩ (fun hHeld => ?_); refine with_tabW pax_first.tab9 pax_first.bits9 (fun HT_ HW_ => ?_)
                                  generalize w35.drew = w36 at BK105 HB hHeld ⊢
                                  refine pure_ (i := 1) (N := some 71) (v := ?_) (a' := ?_) #[false, true, false, false, false, false, false, false, false, false, false, false, false, false, false, false, false] rfl rfl (any_of HT_.out (by kernel_rfl)) (fun _ _ _ h => h) (Or.inl ⟨by rfl, ?_⟩) ?_ ?_
                                  rotate_left
                                  · intro w'
                                    go_simp
                                    with_reducible rfl
                                  rotate_left
                                  · simp only [Act.put, List.setIfInBounds_toArray, List.set_cons_zero, List.set_cons_succ, i64_w, i32_w]
                                    rfl
                                  refine pure_ (i := 2) (N := some 72) (v := ?_) (a' := ?_) #[false, true, true, false, false, false, false, false, false, false, false, false, false, false, false, false, false] rfl rfl (any_of HT_.out (by kernel_rfl)) (fun _ _ _ h => h) (Or.inl ⟨by rfl, ?_⟩) ?_ ?_
                                  rotate_left
                                  · intro w'
                                    go_simp
                                    with_reducible rfl
                                  rotate_left
                                  · simp only [Act.put, List.setIfInBounds_toArray, List.set_cons_zero, List.set_cons_succ, i64_w, i32_w]
                                    rfl
                                  refine pure_ (i := 3) (N := some 73) (v := ?_) (a' := ?_) #[false, true, true, true, false, false, false, false, false, false, false, false, false, false, false, false, false] rfl rfl (any_of HT_.out (by kernel_rfl)) (fun _ _ _ h => h) (Or.inl ⟨by rfl, ?_⟩) ?_ ?_
                                  rotate_left
                                  · intro w'
                                    go_simp
                                    with_reducible rfl
                                  rotate_left
                                  · simp only [Act.put, List.setIfInBounds_toArray, List.set_cons_zero, List.set_cons_succ, i64_w, i32_w]
                                    rfl
                                  refine take_ (i := 0) (N := some 70) (v := ?_) (a' := ?_) #[true, true, true, true, false, false, false, false, false, false, false, false, false, false, false, false, false] rfl rfl (take_ofW HT_.out HW_.out (by kernel_rfl)) (fun _ _ _ h => h) (Or.inl ⟨by rfl, ?_⟩) hHeld ?_ ?_
                                  rotate_left
                                  · rintro w' ⟨s0, s1⟩
                                    go_simp
                                    with_reducible rfl
                                  rotate_left
                                  · simp only [Act.put, List.setIfInBounds_toArray, List.set_cons_zero, List.set_cons_succ, i64_w, i32_w]
                                    rfl
                                  refine take_ (i := 4) (N := some 74) (v := ?_) (a' := ?_) #[true, true, true, true, true, false, false, false, false, false, false, false, false, false, false, false, false] rfl rfl (take_ofW HT_.out HW_.out (by kernel_rfl)) (fun _ _ _ h => h) (Or.inl ⟨by rfl, ?_⟩) hHeld ?_ ?_
                                  rotate_left
                                  · rintro w' ⟨s0, s1⟩
                                    go_simp
                                    with_reducible rfl
                                  rotate_left
                                  · simp only [Act.put, List.setIfInBounds_toArray, List.set_cons_zero, List.set_cons_succ, i64_w, i32_w]
                                    rfl
                                  refine one_ (i := 5) (N := some 75) #[true, true, true, true, true, true, false, false, false, false, false, false, false, false, false, false, false] rfl rfl (one_of HT_.out (by kernel_rfl)) (by decide) (fun K hK => ?_)
                                  refine goes_ Tryd.func23 (by kernel_rfl) rfl #[.agg #[.string t112, .string (t113.extract 0 ((ji24) : Int).toNat)]] (by rfl) rfl rfl (by (try simp only [List.map_toArray, List.map_cons, List.map_nil]); first | done | (simp only [hji24]; rfl) | rfl | (simp only [List.length_drop, List.length_take]; rfl)) ?_
                                  with_reducible refine (pax_Right.calls t112 (t113.extract 0 ((ji24) : Int).toNat) true _ A29.out).mono ?_
                                  rintro e w37 ⟨rfl, hb⟩
                                  refine ⟨_, rfl, ?_⟩
                                  have n0_ := Aside0.mk (blk_below (g := gb105) (o := .cells #[.string t112, .string (t113.extract 0 ((ji24) : Int).toNat)] 41 (0, 0)) (by (with_reducible repeat (first | refine blk_drewN ?_ _ | refine blk_drew ?_ | refine blk_alloc ?_ _)); exact BK105.out) hb)
                                  have n1_ := Aside0.mk (below_step (by repeat (first | (with_reducible first | exact HB.out | apply below_alloc | apply pw_below_drewN | apply below_drew1 | refine below_set ?_ GE105.out) | exact HB.out)) hb)
                                  clear BK105
                                  clear HB
                                  have BK105 := n0_
                                  have HB := n1_
                                  clear n0_ n1_
                                  (try clear hb)
                                  (try clear hb2)
                                  (try clear hk)
                                  (try clear hi)
                                  refine hK.out _ _ ⟨(blk_cell BK105.out 0).trans rfl, (blk_cell BK105.out 1).trans rfl⟩ (fun hHeld => ?_)
                                  clear hK K
                                  refine norm_ (a' := ?_) ?_ ?_
                                  rotate_left
                                  · show Act.put _ (some 75) _ = _
                                    simp only [Act.put, List.setIfInBounds_toArray, List.set_cons_zero, List.set_cons_succ, i64_w, i32_w]
                                    rfl
                                  refine pure_ (i := 6) (N := some 76) (v := ?_) (a' := ?_) #[true, true, true, true, true, true, true, false, false, false, false, false, false, false, false, false, false] rfl rfl (any_of HT_.out (by kernel_rfl)) (fun _ _ _ h => h) (Or.inl ⟨by rfl, ?_⟩) ?_ ?_
                                  rotate_left
                                  · intro w'
                                    go_simp
                                    with_reducible rfl
                                  rotate_left
                                  · simp only [Act.put, List.setIfInBounds_toArray, List.set_cons_zero, List.set_cons_succ, i64_w, i32_w]
                                    rfl
                                  refine pure_ (i := 9) (N := some 79) (v := ?_) (a' := ?_) #[true, true, true, true, true, true, true, false, false, true, false, false, false, false, false, false, false] rfl rfl (any_of HT_.out (by kernel_rfl)) (fun _ _ _ h => h) (Or.inl ⟨by rfl, ?_⟩) ?_ ?_
                                  rotate_left
                                  · intro w'
                                    go_simp
                                    with_reducible rfl
                                  rotate_left
                                  · simp only [Act.put, List.setIfInBounds_toArray, List.set_cons_zero, List.set_cons_succ, i64_w, i32_w]
                                    rfl
                                  refine pure_ (i := 10) (N := some 80) (v := ?_) (a' := ?_) #[true, true, true, true, true, true, true, false, false, true, true, false, false, false, false, false, false] rfl rfl (any_of HT_.out (by kernel_rfl)) (fun _ _ _ h => h) (Or.inl ⟨by rfl, ?_⟩) ?_ ?_
                                  rotate_left
                                  · intro w'
                                    go_simp
                                    with_reducible rfl
                                  rotate_left
                                  · simp only [Act.put, List.setIfInBounds_toArray, List.set_cons_zero, List.set_cons_succ, i64_w, i32_w]
                                    rfl
                                  refine pure_ (i := 11) (N := some 81) (v := ?_) (a' := ?_) #[true, true, true, true, true, true, true, false, false, true, true, true, false, false, false, false, false] rfl rfl (any_of HT_.out (by kernel_rfl)) (fun _ _ _ h => h) (Or.inl ⟨by rfl, ?_⟩) ?_ ?_
                                  rotate_left
                                  · intro w'
                                    go_simp
                                    with_reducible rfl
                                  rotate_left
                                  · simp only [Act.put, List.setIfInBounds_toArray, List.set_cons_zero, List.set_cons_succ, i64_w, i32_w]
                                    rfl
                                  refine take_ (i := 7) (N := some 77) (v := ?_) (a' := ?_) #[true, true, true, true, true, true, true, true, false, true, true, true, false, false, false, false, false] rfl rfl (take_ofW HT_.out HW_.out (by kernel_rfl)) (fun _ _ _ h => h) (Or.inl ⟨by rfl, ?_⟩) hHeld ?_ ?_
                                  rotate_left
                                  · rintro w' ⟨s0, s1⟩
                                    go_simp
                                    with_reducible rfl
                                  rotate_left
                                  · simp only [Act.put, List.setIfInBounds_toArray, List.set_cons_zero, List.set_cons_succ, i64_w, i32_w]
                                    rfl
                                  refine one_ (i := 8) (N := some 78) #[true, true, true, true, true, true, true, true, true, true, true, true, false, false, false, false, false] rfl rfl (one_of HT_.out (by kernel_rfl)) (by decide) (fun K hK => ?_)
                                  refine goes_ Tryd.func25 (by kernel_rfl) rfl #[.agg #[.string t112, .string (t113.extract 0 ((ji24) : Int).toNat)]] (by rfl) rfl rfl (by (try simp only [List.map_toArray, List.map_cons, List.map_nil]); first | done | (simp only [hji24]; rfl) | rfl | (simp only [List.length_drop, List.length_take]; rfl)) ?_
                                  with_reducible refine (pax_line.calls kj18 t112 (t113.extract 0 ((ji24) : Int).toNat) t116 _ A31.out (HT.out.below (by repeat (first | (with_reducible first | exact HB.out | apply below_alloc | apply pw_below_drewN | apply below_drew1 | refine below_set ?_ GE105.out) | exact HB.out)))).mono ?_
                                  rintro e w38 ⟨rfl, hb⟩
                                  refine ⟨_, rfl, ?_⟩
                                  have n0_ := Aside0.mk (blk_below (g := gb105) (o := .cells #[.string t112, .string (t113.extract 0 ((ji24) : Int).toNat)] 41 (0, 0)) (by (with_reducible repeat (first | refine blk_drewN ?_ _ | refine blk_drew ?_ | refine blk_alloc ?_ _)); exact BK105.out) hb)
                                  have n1_ := Aside0.mk (below_step (by repeat (first | (with_reducible first | exact HB.out | apply below_alloc | apply pw_below_drewN | apply below_drew1 | refine below_set ?_ GE105.out) | exact HB.out)) hb)
                                  clear BK105
                                  clear HB
                                  have BK105 := n0_
                                  have HB := n1_
                                  clear n0_ n1_
                                  (try clear hb)
                                  (try clear hb2)
                                  (try clear hk)
                                  (try clear hi)
                                  refine hK.out _ _ ⟨(blk_cell BK105.out 0).trans rfl, (blk_cell BK105.out 1).trans rfl⟩ (fun hHeld => ?_)
                                  clear hK K
                                  refine norm_ (a' := ?_) ?_ ?_
                                  rotate_left
                                  · show Act.put _ (some 78) _ = _
                                    simp only [Act.put, List.setIfInBounds_toArray, List.set_cons_zero, List.set_cons_succ, i64_w, i32_w]
                                    rfl
                                  refine pure_ (i := 12) (N := some 82) (v := ?_) (a' := ?_) #[true, true, true, true, true, true, true, true, true, true, true, true, true, false, false, false, false] rfl rfl (any_of HT_.out (by kernel_rfl)) (fun _ _ _ h => h) (Or.inl ⟨by rfl, ?_⟩) ?_ ?_
                                  rotate_left
                                  · intro w'
                                    go_simp
                                    with_reducible rfl
                                  rotate_left
                                  · simp only [Act.put, List.setIfInBounds_toArray, List.set_cons_zero, List.set_cons_succ, i64_w, i32_w]
                                    rfl
                                  refine pure_ (i := 13) (N := some 83) (v := ?_) (a' := ?_) #[true, true, true, true, true, true, true, true, true, true, true, true, true, true, false, false, false] rfl rfl (any_of HT_.out (by kernel_rfl)) (fun _ _ _ h => h) (Or.inl ⟨by rfl, ?_⟩) ?_ ?_
                                  rotate_left
                                  · intro w'
                                    go_simp
                                    with_reducible rfl
                                  rotate_left
                                  · simp only [Act.put, List.setIfInBounds_toArray, List.set_cons_zero, List.set_cons_succ, i64_w, i32_w]
                                    rfl
                                  refine last_ (i := 14) (N := none) #[true, true, true, true, true, true, true, true, true, true, true, true, true, true, true, false, false] rfl rfl (one_of HT_.out (by kernel_rfl)) (by decide) (fun K hK => ?_)
                                  have hs39 : w38.cell? ⟨gb105, 0, none⟩ = some (.string t112) := (blk_cell BK105.out 0).trans rfl
                                  have hfs39 := blk_frozen BK105.out 0
                                  have hs40 : w38.cell? ⟨gb105, 1, none⟩ = some (.string (t113.extract 0 ((ji24) : Int).toNat)) := (blk_cell BK105.out 1).trans rfl
                                  have hfs40 := blk_frozen BK105.out 1
                                  refine skip_ (w1 := ?_) (by rfl) rfl ?_ ?_
                                  rotate_left
                                  · go_simp
                                    rfl
                                  refine hK.out _ _ ?_
                                  clear hK K
                                  refine pure_ (i := 15) (N := some 3) (v := ?_) (a' := ?_) #[true, true, true, true, true, true, true, true, true, true, true, true, true, true, true, true, false] rfl rfl (any_of HT_.out (by kernel_rfl)) (fun _ _ _ h => h) (Or.inl ⟨by rfl, ?_⟩) ?_ ?_
                                  rotate_left
                                  · intro w'
                                    go_simp
                                    with_reducible rfl
                                  rotate_left
                                  · simp only [Act.put, List.setIfInBounds_toArray, List.set_cons_zero, List.set_cons_succ, i64_w, i32_w]
                                    rfl
                                  refine pure_ (i := 16) (N := some 4) (v := ?_) (a' := ?_) #[true, true, true, true, true, true, true, true, true, true, true, true, true, true, true, true, true] rfl rfl (any_of HT_.out (by kernel_rfl)) (fun _ _ _ h => h) (Or.inl ⟨by rfl, ?_⟩) ?_ ?_
                                  rotate_left
                                  · intro w'
                                    go_simp
                                    with_reducible rfl
                                  rotate_left
                                  · simp only [Act.put, List.setIfInBounds_toArray, List.set_cons_zero, List.set_cons_succ, i64_w, i32_w]
                                    rfl
                                  refine done_ (done_of HT_.out (by kernel_rfl)) ?_
                                  try go_wp2
                                  refine bodyPost_ret (results_ctt rfl _ _ gb105 41 #[.string t112, .string (t113.extract 0 ((ji24) : Int).toNat)] (0, 0) _ rfl (by (with_reducible repeat (first | refine blk_drewN ?_ _ | refine blk_drew ?_ | refine blk_alloc ?_ _)); refine blk_put (cs := #[.string t112, .string (t113.extract 0 ((ji24) : Int).toNat)]) ?_ 1 _ rfl; (with_reducible repeat (first | refine blk_drewN ?_ _ | refine blk_drew ?_ | refine blk_alloc ?_ _)); refine blk_put (cs := #[.string t112, .string (t113.extract 0 ((ji24) : Int).toNat)]) ?_ 0 _ rfl; (with_reducible repeat (first | refine blk_drewN ?_ _ | refine blk_drew ?_ | refine blk_alloc ?_ _)); exact BK105.out) Tryd.underlying41 rfl (by kernel_rfl)) rfl ?_
                                  exact ⟨by first | rfl | (simp [errW_none, errW_some] <;> rfl) | (simp only [← hji2, ← hji14, ← hji24]; first | rfl | (simp [errW_none, errW_some] <;> rfl)) | (simp [*, errW_none, errW_some] <;> rfl), by repeat (first | (with_reducible first | exact HB.out | apply below_alloc | apply pw_below_drewN | apply below_drew1 | refine below_set ?_ GE105.out) | exact HB.out)⟩
                                · replace c30 := Bool.eq_false_iff.mpr c30
                                  subst c30
                                  have H1 : (some (t112, t113.extract 0 ((ji24) : Int).toNat, a0.extract (t109 : Int).toNat a0.size, false)) = some (r1, r2, r3, r4) := by rw [if_neg (show ¬ (false = true) by decide)] at H; exact H
                                  clear H
                                  have H := H1
                                  clear H1
                                  simp only [Option.some.injEq, Prod.mk.injEq] at H
                                  obtain ⟨rfl, rfl, rfl, rfl⟩ := H
                                  have hcz41_0 : wc.cell? ⟨gb105, 0, none⟩ = some (.string (⟨#[]⟩ : ByteArray)) := (blk_cell BK105.out 0).trans rfl
                                  have hcz41_1 : wc.cell? ⟨gb105, 1, none⟩ = some (.string (⟨#[]⟩ : ByteArray)) := (blk_cell BK105.out 1).trans rfl
                                  have hfz41_0 := blk_frozen BK105.out 0
                                  have hfz41_1 := blk_frozen BK105.out 1
                                  try go_wp2
                                  have n0_ : Aside0 (((wc.setCell ⟨gb105, 0, none⟩ (.string t112)).setCell ⟨gb105, 1, none⟩ (.string (t113.extract 0 ((ji24) : Int).toNat))).heap[gb105]? = some (.cells #[.string t112, .string (t113.extract 0 ((ji24) : Int).toNat)] 41 (0, 0))) := ⟨by (with_reducible repeat (first | refine blk_drewN ?_ _ | refine blk_drew ?_ | refine blk_alloc ?_ _)); refine blk_put (cs := #[.string t112, .string (⟨#[]⟩ : ByteArray)]) ?_ 1 _ rfl; (with_reducible repeat (first | refine blk_drewN ?_ _ | refine blk_drew ?_ | refine blk_alloc ?_ _)); refine blk_put (cs := #[.string (⟨#[]⟩ : ByteArray), .string (⟨#[]⟩ : ByteArray)]) ?_ 0 _ rfl; (with_reducible repeat (first | refine blk_drewN ?_ _ | refine blk_drew ?_ | refine blk_alloc ?_ _)); exact BK105.out⟩
                                  have n1_ : Aside0 (Below w.heap.size w ((wc.setCell ⟨gb105, 0, none⟩ (.string t112)).setCell ⟨gb105, 1, none⟩ (.string (t113.extract 0 ((ji24) : Int).toNat)))) := ⟨by repeat (first | (with_reducible first | exact HB.out | apply below_alloc | apply pw_below_drewN | apply below_drew1 | refine below_set ?_ GE105.out) | exact HB.out)⟩
                                  (try clear BK105)
                                  (try clear HB)
                                  generalize ((wc.setCell ⟨gb105, 0, none⟩ (.string t112)).setCell ⟨gb105, 1, none⟩ (.string (t113.extract 0 ((ji24) : Int).toNat))) = w42 at n0_ n1_ ⊢
                                  have BK105 := n0_
                                  have HB := n1_
                                  clear n0_ n1_
                                  have n0_ := Aside0.mk (blk_drew BK105.out)
                                  have n1_ := Aside0.mk (below_drew1 HB.out)
                                  clear BK105
                                  clear HB
                                  have BK105 := n0_
                                  have HB := n1_
                                  clear n0_ n1_
                                  refine start_ (n := 17) (S := fun w' => w'.cell? ⟨gb105, 0, none⟩ = some (.string t112) ∧ w'.cell? ⟨gb105, 1, none⟩ = some (.string (t113.extract 0 ((ji24) : Int).toNat))) (ds := [14]) #[false, false, false, false, false, false, false, false, false, false, false, false, false, false, false, false, false] (by kernel_rfl) rfl rfl ⟨(blk_cell BK105.out 0).trans rfl, (blk_cell BK105.out 1).trans rfl⟩ (fun hHeld => ?_); refine with_tabW pax_first.tab9 pax_first.bits9 (fun HT_ HW_ => ?_)
                                  generalize w42.drew = w43 at BK105 HB hHeld ⊢
                                  refine pure_ (i := 1) (N := some 71) (v := ?_) (a' := ?_) #[false, true, false, false, false, false, false, false, false, false, false, false, false, false, false, false, false] rfl rfl (any_of HT_.out (by kernel_rfl)) (fun _ _ _ h => h) (Or.inl ⟨by rfl, ?_⟩) ?_ ?_
                                  rotate_left
                                  · intro w'
                                    go_simp
                                    with_reducible rfl
                                  rotate_left
                                  · simp only [Act.put, List.setIfInBounds_toArray, List.set_cons_zero, List.set_cons_succ, i64_w, i32_w]
                                    rfl
                                  refine pure_ (i := 2) (N := some 72) (v := ?_) (a' := ?_) #[false, true, true, false, false, false, false, false, false, false, false, false, false, false, false, false, false] rfl rfl (any_of HT_.out (by kernel_rfl)) (fun _ _ _ h => h) (Or.inl ⟨by rfl, ?_⟩) ?_ ?_
                                  rotate_left
                                  · intro w'
                                    go_simp
                                    with_reducible rfl
                                  rotate_left
                                  · simp only [Act.put, List.setIfInBounds_toArray, List.set_cons_zero, List.set_cons_succ, i64_w, i32_w]
                                    rfl
                                  refine pure_ (i := 3) (N := some 73) (v := ?_) (a' := ?_) #[false, true, true, true, false, false, false, false, false, false, false, false, false, false, false, false, false] rfl rfl (any_of HT_.out (by kernel_rfl)) (fun _ _ _ h => h) (Or.inl ⟨by rfl, ?_⟩) ?_ ?_
                                  rotate_left
                                  · intro w'
                                    go_simp
                                    with_reducible rfl
                                  rotate_left
                                  · simp only [Act.put, List.setIfInBounds_toArray, List.set_cons_zero, List.set_cons_succ, i64_w, i32_w]
                                    rfl
                                  refine take_ (i := 0) (N := some 70) (v := ?_) (a' := ?_) #[true, true, true, true, false, false, false, false, false, false, false, false, false, false, false, false, false] rfl rfl (take_ofW HT_.out HW_.out (by kernel_rfl)) (fun _ _ _ h => h) (Or.inl ⟨by rfl, ?_⟩) hHeld ?_ ?_
                                  rotate_left
                                  · rintro w' ⟨s0, s1⟩
                                    go_simp
                                    with_reducible rfl
                                  rotate_left
                                  · simp only [Act.put, List.setIfInBounds_toArray, List.set_cons_zero, List.set_cons_succ, i64_w, i32_w]
                                    rfl
                                  refine take_ (i := 4) (N := some 74) (v := ?_) (a' := ?_) #[true, true, true, true, true, false, false, false, false, false, false, false, false, false, false, false, false] rfl rfl (take_ofW HT_.out HW_.out (by kernel_rfl)) (fun _ _ _ h => h) (Or.inl ⟨by rfl, ?_⟩) hHeld ?_ ?_
                                  rotate_left
                                  · rintro w' ⟨s0, s1⟩
                                    go_simp
                                    with_reducible rfl
                                  rotate_left
                                  · simp only [Act.put, List.setIfInBounds_toArray, List.set_cons_zero, List.set_cons_succ, i64_w, i32_w]
                                    rfl
                                  refine one_ (i := 5) (N := some 75) #[true, true, true, true, true, true, false, false, false, false, false, false, false, false, false, false, false] rfl rfl (one_of HT_.out (by kernel_rfl)) (by decide) (fun K hK => ?_)
                                  refine goes_ Tryd.func23 (by kernel_rfl) rfl #[.agg #[.string t112, .string (t113.extract 0 ((ji24) : Int).toNat)]] (by rfl) rfl rfl (by (try simp only [List.map_toArray, List.map_cons, List.map_nil]); first | done | (simp only [hji24]; rfl) | rfl | (simp only [List.length_drop, List.length_take]; rfl)) ?_
                                  with_reducible refine (pax_Right.calls t112 (t113.extract 0 ((ji24) : Int).toNat) false _ A29.out).mono ?_
                                  rintro e w44 ⟨rfl, hb⟩
                                  refine ⟨_, rfl, ?_⟩
                                  have n0_ := Aside0.mk (blk_below (g := gb105) (o := .cells #[.string t112, .string (t113.extract 0 ((ji24) : Int).toNat)] 41 (0, 0)) (by (with_reducible repeat (first | refine blk_drewN ?_ _ | refine blk_drew ?_ | refine blk_alloc ?_ _)); exact BK105.out) hb)
                                  have n1_ := Aside0.mk (below_step (by repeat (first | (with_reducible first | exact HB.out | apply below_alloc | apply pw_below_drewN | apply below_drew1 | refine below_set ?_ GE105.out) | exact HB.out)) hb)
                                  clear BK105
                                  clear HB
                                  have BK105 := n0_
                                  have HB := n1_
                                  clear n0_ n1_
                                  (try clear hb)
                                  (try clear hb2)
                                  (try clear hk)
                                  (try clear hi)
                                  refine hK.out _ _ ⟨(blk_cell BK105.out 0).trans rfl, (blk_cell BK105.out 1).trans rfl⟩ (fun hHeld => ?_)
                                  clear hK K
                                  refine norm_ (a' := ?_) ?_ ?_
                                  rotate_left
                                  · show Act.put _ (some 75) _ = _
                                    simp only [Act.put, List.setIfInBounds_toArray, List.set_cons_zero, List.set_cons_succ, i64_w, i32_w]
                                    rfl
                                  refine pure_ (i := 6) (N := some 76) (v := ?_) (a' := ?_) #[true, true, true, true, true, true, true, false, false, false, false, false, false, false, false, false, false] rfl rfl (any_of HT_.out (by kernel_rfl)) (fun _ _ _ h => h) (Or.inl ⟨by rfl, ?_⟩) ?_ ?_
                                  rotate_left
                                  · intro w'
                                    go_simp
                                    with_reducible rfl
                                  rotate_left
                                  · simp only [Act.put, List.setIfInBounds_toArray, List.set_cons_zero, List.set_cons_succ, i64_w, i32_w]
                                    rfl
                                  refine pure_ (i := 7) (N := some 77) (v := undef) (a' := ?_) #[true, true, true, true, true, true, true, true, false, false, false, false, false, false, false, false, false] rfl rfl (any_of HT_.out (by kernel_rfl)) (fun _ _ _ h => h) (Or.inr ⟨by rfl, rfl⟩) ?_ ?_
                                  rotate_left
                                  · simp only [Act.put, List.setIfInBounds_toArray, List.set_cons_zero, List.set_cons_succ, i64_w, i32_w]
                                    rfl
                                  refine pure_ (i := 8) (N := some 78) (v := undef) (a' := ?_) #[true, true, true, true, true, true, true, true, true, false, false, false, false, false, false, false, false] rfl rfl (any_of HT_.out (by kernel_rfl)) (fun _ _ _ h => h) (Or.inr ⟨by rfl, rfl⟩) ?_ ?_
                                  rotate_left
                                  · simp only [Act.put, List.setIfInBounds_toArray, List.set_cons_zero, List.set_cons_succ, i64_w, i32_w]
                                    rfl
                                  refine pure_ (i := 9) (N := some 79) (v := undef) (a' := ?_) #[true, true, true, true, true, true, true, true, true, true, false, false, false, false, false, false, false] rfl rfl (any_of HT_.out (by kernel_rfl)) (fun _ _ _ h => h) (Or.inr ⟨by rfl, rfl⟩) ?_ ?_
                                  rotate_left
                                  · simp only [Act.put, List.setIfInBounds_toArray, List.set_cons_zero, List.set_cons_succ, i64_w, i32_w]
                                    rfl
                                  refine pure_ (i := 10) (N := some 80) (v := undef) (a' := ?_) #[true, true, true, true, true, true, true, true, true, true, true, false, false, false, false, false, false] rfl rfl (any_of HT_.out (by kernel_rfl)) (fun _ _ _ h => h) (Or.inr ⟨by rfl, rfl⟩) ?_ ?_
                                  rotate_left
                                  · simp only [Act.put, List.setIfInBounds_toArray, List.set_cons_zero, List.set_cons_succ, i64_w, i32_w]
                                    rfl
                                  refine pure_ (i := 11) (N := some 81) (v := undef) (a' := ?_) #[true, true, true, true, true, true, true, true, true, true, true, true, false, false, false, false, false] rfl rfl (any_of HT_.out (by kernel_rfl)) (fun _ _ _ h => h) (Or.inr ⟨by rfl, rfl⟩) ?_ ?_
                                  rotate_left
                                  · simp only [Act.put, List.setIfInBounds_toArray, List.set_cons_zero, List.set_cons_succ, i64_w, i32_w]
                                    rfl
                                  refine pure_ (i := 12) (N := some 82) (v := undef) (a' := ?_) #[true, true, true, true, true, true, true, true, true, true, true, true, true, false, false, false, false] rfl rfl (any_of HT_.out (by kernel_rfl)) (fun _ _ _ h => h) (Or.inr ⟨by rfl, rfl⟩) ?_ ?_
                                  rotate_left
                                  · simp only [Act.put, List.setIfInBounds_toArray, List.set_cons_zero, List.set_cons_succ, i64_w, i32_w]
                                    rfl
                                  refine pure_ (i := 13) (N := some 83) (v := ?_) (a' := ?_) #[true, true, true, true, true, true, true, true, true, true, true, true, true, true, false, false, false] rfl rfl (any_of HT_.out (by kernel_rfl)) (fun _ _ _ h => h) (Or.inl ⟨by rfl, ?_⟩) ?_ ?_
                                  rotate_left
                                  · intro w'
                                    go_simp
                                    with_reducible rfl
                                  rotate_left
                                  · simp only [Act.put, List.setIfInBounds_toArray, List.set_cons_zero, List.set_cons_succ, i64_w, i32_w]
                                    rfl
                                  refine last_ (i := 14) (N := none) #[true, true, true, true, true, true, true, true, true, true, true, true, true, true, true, false, false] rfl rfl (one_of HT_.out (by kernel_rfl)) (by decide) (fun K hK => ?_)
                                  have hs45 : w44.cell? ⟨gb105, 0, none⟩ = some (.string t112) := (blk_cell BK105.out 0).trans rfl
                                  have hfs45 := blk_frozen BK105.out 0
                                  have hs46 : w44.cell? ⟨gb105, 1, none⟩ = some (.string (t113.extract 0 ((ji24) : Int).toNat)) := (blk_cell BK105.out 1).trans rfl
                                  have hfs46 := blk_frozen BK105.out 1
                                  refine skip_ (w1 := ?_) (by rfl) rfl ?_ ?_
                                  rotate_left
                                  · go_simp
                                    rfl
                                  refine hK.out _ _ ?_
                                  clear hK K
                                  refine pure_ (i := 15) (N := some 3) (v := ?_) (a' := ?_) #[true, true, true, true, true, true, true, true, true, true, true, true, true, true, true, true, false] rfl rfl (any_of HT_.out (by kernel_rfl)) (fun _ _ _ h => h) (Or.inl ⟨by rfl, ?_⟩) ?_ ?_
                                  rotate_left
                                  · intro w'
                                    go_simp
                                    with_reducible rfl
                                  rotate_left
                                  · simp only [Act.put, List.setIfInBounds_toArray, List.set_cons_zero, List.set_cons_succ, i64_w, i32_w]
                                    rfl
                                  refine pure_ (i := 16) (N := some 4) (v := ?_) (a' := ?_) #[true, true, true, true, true, true, true, true, true, true, true, true, true, true, true, true, true] rfl rfl (any_of HT_.out (by kernel_rfl)) (fun _ _ _ h => h) (Or.inl ⟨by rfl, ?_⟩) ?_ ?_
                                  rotate_left
                                  · intro w'
                                    go_simp
                                    with_reducible rfl
                                  rotate_left
                                  · simp only [Act.put, List.setIfInBounds_toArray, List.set_cons_zero, List.set_cons_succ, i64_w, i32_w]
                                    rfl
                                  refine done_ (done_of HT_.out (by kernel_rfl)) ?_
                                  try go_wp2
                                  refine bodyPost_ret (results_ctt rfl _ _ gb105 41 #[.string t112, .string (t113.extract 0 ((ji24) : Int).toNat)] (0, 0) _ rfl (by (with_reducible repeat (first | refine blk_drewN ?_ _ | refine blk_drew ?_ | refine blk_alloc ?_ _)); refine blk_put (cs := #[.string t112, .string (t113.extract 0 ((ji24) : Int).toNat)]) ?_ 1 _ rfl; (with_reducible repeat (first | refine blk_drewN ?_ _ | refine blk_drew ?_ | refine blk_alloc ?_ _)); refine blk_put (cs := #[.string t112, .string (t113.extract 0 ((ji24) : Int).toNat)]) ?_ 0 _ rfl; (with_reducible repeat (first | refine blk_drewN ?_ _ | refine blk_drew ?_ | refine blk_alloc ?_ _)); exact BK105.out) Tryd.underlying41 rfl (by kernel_rfl)) rfl ?_
                                  exact ⟨by first | rfl | (simp [errW_none, errW_some] <;> rfl) | (simp only [← hji2, ← hji14, ← hji24]; first | rfl | (simp [errW_none, errW_some] <;> rfl)) | (simp [*, errW_none, errW_some] <;> rfl), by repeat (first | (with_reducible first | exact HB.out | apply below_alloc | apply pw_below_drewN | apply below_drew1 | refine below_set ?_ GE105.out) | exact HB.out)⟩
                              · rw [if_neg c28] at H
                                exact absurd H (by simp)
                            · rw [if_neg c27] at H
                              exact absurd H (by simp)
                          · rw [if_neg c26] at H
                            exact absurd H (by simp)
                        · rw [if_neg c25] at H
                          exact absurd H (by simp)
                · rw [if_neg c17] at H
                  exact absurd H (by simp)
              · rw [if_neg c16] at H
                exact absurd H (by simp)
            · rw [if_neg c15] at H
              exact absurd H (by simp)
    · rw [if_neg c4] at H
      exact absurd H (by simp)
  · rw [if_neg c3] at H
    exact absurd H (by simp)

end Go.Proofs.YtcbeehchhhoeeaaDoor.P
