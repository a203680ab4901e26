/- Lean functions with the answers of the Go functions of this seat, and for each the proof that the Go code comes to them (made by the session's program over the kit's print). No conditions. -/
import Derived.Test.YtdeolcgabkkocaaDoorPx0
namespace Go.Proofs.YtdeolcgabkkocaaDoor.P
open Go.RowKit Go.Proofs.YtdeolcgabkkocaaDoorW.PrintWords Go.Proofs.YtdeolcgabkkocaaDoorW.PrintLast Go.Proofs.YtdeolcgabkkocaaDoorW.PrintMore
attribute [local go_sem] max2_int min2_int max_two min_two max_three min_three max_four min_four   -- for this text's walks alone
set_option linter.unusedVariables false
set_option linter.unusedSimpArgs false

/-! ### mudlarklaw08_name: function 18 -/
def mudlarklaw08_name.f (a0 : Int) : Option (ByteArray) := if (Int.tmod a0 6) = 0 then (some (⟨#[]⟩ : ByteArray)) else (if (Int.tmod a0 6) = 1 then (some (⟨#[100, 105, 114, 47]⟩ : ByteArray)) else (if (Int.tmod a0 6) = 2 then (some (⟨#[97, 32, 108, 111, 110, 103, 32, 110, 97, 109, 101, 44, 32, 111, 102, 32, 115, 111, 109, 101, 32, 102, 111, 114, 116, 121, 32, 98, 121, 116, 101, 115, 58, 32, 49, 50, 51, 52, 53, 54]⟩ : ByteArray)) else (if (Int.tmod a0 6) = 3 then (some (⟨#[195, 169]⟩ : ByteArray)) else (some (strOfNums (([(97 + (Int.tmod a0 26)) % 256] : List Int)))))))
set_option maxHeartbeats 8000000 in
set_option maxRecDepth 100000 in
theorem mudlarklaw08_name.calls (a0 : Int) (r : ByteArray) (w : World) (h : mudlarklaw08_name.f a0 = some r) :
  Calls Tryd.prog 18 #[.int .u8 a0] w fun e w' => e = .returned (.string r) ∧ Below w.heap.size w w' := by
 have HB := Aside0.mk (Below.refl w.heap.size w)
 have H : (if (Int.tmod a0 6) = 0 then (some (⟨#[]⟩ : ByteArray)) else (if (Int.tmod a0 6) = 1 then (some (⟨#[100, 105, 114, 47]⟩ : ByteArray)) else (if (Int.tmod a0 6) = 2 then (some (⟨#[97, 32, 108, 111, 110, 103, 32, 110, 97, 109, 101, 44, 32, 111, 102, 32, 115, 111, 109, 101, 32, 102, 111, 114, 116, 121, 32, 98, 121, 116, 101, 115, 58, 32, 49, 50, 51, 52, 53, 54]⟩ : ByteArray)) else (if (Int.tmod a0 6) = 3 then (some (⟨#[195, 169]⟩ : ByteArray)) else (some (strOfNums (([(97 + (Int.tmod a0 26)) % 256] : List Int)))))))) = some r := h
 clear h
 by_cases c2 : (Int.tmod a0 6) = 0
 ·rw [if_pos c2] at H
  have c2b0 : ((Int.tmod a0 6) == 0) = true := beq_iff_eq.mpr c2
  have c2b1 : ((Int.tmod a0 6) != 0) = false := bne_eq_false_iff_eq.mpr c2
  clear c2
  obtain rfl := Option.some.inj H
  go_enter Tryd.func18, Tryd.ntmps18
  go_wp2
  go_ret
  exact ⟨by first | rfl | (simp [errW_none, errW_some] <;> rfl) | (simp [*, errW_none, errW_some] <;> rfl), by repeat (first | (with_reducible first | exact HB.out | apply below_alloc | apply pw_below_drewN | apply below_drew1) | exact HB.out)⟩
 ·rw [if_neg c2] at H
  have c2b0 : ((Int.tmod a0 6) == 0) = false := beq_eq_false_iff_ne.mpr c2
  have c2b1 : ((Int.tmod a0 6) != 0) = true := bne_iff_ne.mpr c2
  by_cases c3 : (Int.tmod a0 6) = 1
  ·rw [if_pos c3] at H
   have c3b0 : ((Int.tmod a0 6) == 1) = true := beq_iff_eq.mpr c3
   have c3b1 : ((Int.tmod a0 6) != 1) = false := bne_eq_false_iff_eq.mpr c3
   clear c3
   obtain rfl := Option.some.inj H
   go_enter Tryd.func18, Tryd.ntmps18
   go_wp2
   go_ret
   exact ⟨by first | rfl | (simp [errW_none, errW_some] <;> rfl) | (simp [*, errW_none, errW_some] <;> rfl), by repeat (first | (with_reducible first | exact HB.out | apply below_alloc | apply pw_below_drewN | apply below_drew1) | exact HB.out)⟩
  ·rw [if_neg c3] at H
   have c3b0 : ((Int.tmod a0 6) == 1) = false := beq_eq_false_iff_ne.mpr c3
   have c3b1 : ((Int.tmod a0 6) != 1) = true := bne_iff_ne.mpr c3
   by_cases c4 : (Int.tmod a0 6) = 2
   ·rw [if_pos c4] at H
    have c4b0 : ((Int.tmod a0 6) == 2) = true := beq_iff_eq.mpr c4
    have c4b1 : ((Int.tmod a0 6) != 2) = false := bne_eq_false_iff_eq.mpr c4
    clear c4
    obtain rfl := Option.some.inj H
    go_enter Tryd.func18, Tryd.ntmps18
    go_wp2
    go_ret
    exact ⟨by first | rfl | (simp [errW_none, errW_some] <;> rfl) | (simp [*, errW_none, errW_some] <;> rfl), by repeat (first | (with_reducible first | exact HB.out | apply below_alloc | apply pw_below_drewN | apply below_drew1) | exact HB.out)⟩
   ·rw [if_neg c4] at H
    have c4b0 : ((Int.tmod a0 6) == 2) = false := beq_eq_false_iff_ne.mpr c4
    have c4b1 : ((Int.tmod a0 6) != 2) = true := bne_iff_ne.mpr c4
    by_cases c5 : (Int.tmod a0 6) = 3
    ·rw [if_pos c5] at H
     have c5b0 : ((Int.tmod a0 6) == 3) = true := beq_iff_eq.mpr c5
     have c5b1 : ((Int.tmod a0 6) != 3) = false := bne_eq_false_iff_eq.mpr c5
     clear c5
     obtain rfl := Option.some.inj H
     go_enter Tryd.func18, Tryd.ntmps18
     go_wp2
     go_ret
     exact ⟨by first | rfl | (simp [errW_none, errW_some] <;> rfl) | (simp [*, errW_none, errW_some] <;> rfl), by repeat (first | (with_reducible first | exact HB.out | apply below_alloc | apply pw_below_drewN | apply below_drew1) | exact HB.out)⟩
    ·rw [if_neg c5] at H
     have c5b0 : ((Int.tmod a0 6) == 3) = false := beq_eq_false_iff_ne.mpr c5
     have c5b1 : ((Int.tmod a0 6) != 3) = true := bne_iff_ne.mpr c5
     obtain ⟨y200, hy200⟩ : ∃ y_ : List Int, y_ = (([(97 + (Int.tmod a0 26)) % 256] : List Int)) := ⟨_, rfl⟩
     replace H : (some (strOfNums y200)) = some r := by first | (rw [hy200]; with_reducible exact H) | (have H2_ := (Option.bind_some _ _).symm.trans H; rw [hy200]; with_reducible exact H2_) | (have H2_ := (Option.bind_some _ _).symm.trans H; with_reducible exact H2_) | with_reducible exact H | (rw [hy200]; exact H) | exact H
     have Ny200 := Aside0.mk hy200
     clear hy200
     obtain rfl := Option.some.inj H
     go_enter Tryd.func18, Tryd.ntmps18
     go_wp2_with (first | ((with_reducible refine gate_dst (N := 16) rfl ?_); refine Kd.R_lit (Kd.int .u8) _ 5 ?hg (N := 16) ?hd (xs := ([(97 + (Int.tmod a0 26)) % 256] : List Int)) (inner := [.int .u8 ((97 + (Int.tmod a0 26)) % 256)]) (ok := fun _ => True) (okp := fun _ => True) ?hr ?hp (fun _ hk => hk) trivial (Below.refl _ _) (Nat.le_refl _) (by simp) ?_; (case hd => rfl); (case hg => rfl); (case hr => first | (go_simp; done) | (go_simp; rfl)); (case hp => exact (Reps.one (show Kd.M (Kd.int .u8) _ _ _ ((97 + (Int.tmod a0 26)) % 256) [.int .u8 ((97 + (Int.tmod a0 26)) % 256)] from rfl) (Reps.none _ _))); intro v201 w6 ho7 hb hg_ hnew_; clear hg_ hnew_; (first | rw [← Ny200.out] at ho7 | (simp only [Int.reduceToNat] at ho7; rw [← Ny200.out] at ho7)); have n0_ := Aside0.mk (Kd.R_lower ho7 (below_size (by repeat (first | (with_reducible first | exact HB.out | apply below_alloc | apply pw_below_drewN | apply below_drew1) | exact HB.out)))); have n1_ := Aside0.mk (below_step (by repeat (first | (with_reducible first | exact HB.out | apply below_alloc | apply pw_below_drewN | apply below_drew1) | exact HB.out)) hb); clear HB; have HO202 := n0_; have HB := n1_; clear n0_ n1_; clear hb ho7; have hcv8 := own_string (P := Tryd.prog) Tryd.underlying22 Tryd.underlying5 Tryd.underlying9 (Kd.own_of_R HO202.out); (try have hcv8d := fun m_ => own_string (P := Tryd.prog) Tryd.underlying22 Tryd.underlying5 Tryd.underlying9 (Kd.own_of_R (Kd.R_drewN HO202.out m_)))))
     go_ret
     exact ⟨by first | rfl | (simp [errW_none, errW_some] <;> rfl) | (simp [*, errW_none, errW_some] <;> rfl), by repeat (first | (with_reducible first | exact HB.out | apply below_alloc | apply pw_below_drewN | apply below_drew1) | exact HB.out)⟩

/-! ### mudlarklaw08_g: function 19 -/
def mudlarklaw08_g.f (l0 : List Int) (a1 : Int) : Option (Int) := if a1 < (l0.length : Int) then (if 0 ≤ a1 then (some (rd l0 a1)) else (none)) else (some 0)
set_option maxHeartbeats 8000000 in
set_option maxRecDepth 100000 in
theorem mudlarklaw08_g.calls (A0 : Option Addr) (c0 : Nat) (l0 : List Int) (a1 : Int) (r : Int) (w : World) (hr0 : Kd.C (Kd.int .u8) w A0 l0.length l0) (hc0 : l0.length ≤ c0) (h : mudlarklaw08_g.f l0 a1 = some r) :
  Calls Tryd.prog 19 #[.slice A0 l0.length c0, .int .i64 a1] w fun e w' => e = .returned (.int .u8 r) ∧ Drawn0 w w' := by
 have HR0 := Aside0.mk hr0
 have HC0 := Aside0.mk hc0
 clear hr0 hc0
 have H : (if a1 < (l0.length : Int) then (if 0 ≤ a1 then (some (rd l0 a1)) else (none)) else (some 0)) = some r := h
 clear h
 by_cases c3 : a1 < (l0.length : Int)
 ·rw [if_pos c3] at H
  have c3b0 : decide (a1 < (l0.length : Int)) = true := decide_eq_true c3
  clear c3
  by_cases c4 : 0 ≤ a1
  ·rw [if_pos c4] at H
   have c4b0 : decide (0 ≤ a1) = true := decide_eq_true c4
   clear c4
   obtain rfl := Option.some.inj H
   have p203 : 0 ≤ (a1 : Int) := of_decide_eq_true (by first | (with_reducible assumption) | assumption)
   have q203 : a1 < (l0.length : Int) := of_decide_eq_true (by first | (with_reducible assumption) | assumption)
   obtain ⟨ad203, e203, hx203_0⟩ := Kd.at_int HR0.out a1 p203 q203
   cases e203
   replace p203 := eq_true p203
   replace q203 := eq_true q203
   go_enter Tryd.func19, Tryd.ntmps19
   go_wp2
   go_ret
   exact ⟨by first | rfl | (simp; done) | (simp [*]; done), by repeat (first | exact Drawn0.refl _ | apply Drawn0.step)⟩
  ·rw [if_neg c4] at H
   exact absurd H (by simp)
 ·rw [if_neg c3] at H
  have c3b0 : decide (a1 < (l0.length : Int)) = false := decide_eq_false c3
  clear c3
  obtain rfl := Option.some.inj H
  go_enter Tryd.func19, Tryd.ntmps19
  go_wp2
  go_ret
  exact ⟨by first | rfl | (simp; done) | (simp [*]; done), by repeat (first | exact Drawn0.refl _ | apply Drawn0.step)⟩

/-! ### mudlarklaw08_number: function 20 -/
def mudlarklaw08_number.f (a0 : Int) : Option (Int) := if a0 > 230 then ((some (([2097151, 2097152, 8589934591, 8589934592, 1099511627776, (-1), 4611686018427387904] : List Int) : List Int)).bind fun y204 => (if 0 ≤ (Int.tmod a0 7) then (if (Int.tmod a0 7) < (y204.length : Int) then (some (rd y204 (Int.tmod a0 7))) else (none)) else (none))) else (some (wrap64 (a0)))
set_option maxHeartbeats 8000000 in
set_option maxRecDepth 100000 in
theorem mudlarklaw08_number.calls (a0 : Int) (r : Int) (w : World) (h : mudlarklaw08_number.f a0 = some r) :
  Calls Tryd.prog 20 #[.int .u8 a0] w fun e w' => e = .returned (.int .i64 r) ∧ Below w.heap.size w w' := by
 have HB := Aside0.mk (Below.refl w.heap.size w)
 have H : (if a0 > 230 then ((some (([2097151, 2097152, 8589934591, 8589934592, 1099511627776, (-1), 4611686018427387904] : List Int) : List Int)).bind fun y204 => (if 0 ≤ (Int.tmod a0 7) then (if (Int.tmod a0 7) < (y204.length : Int) then (some (rd y204 (Int.tmod a0 7))) else (none)) else (none))) else (some (wrap64 (a0)))) = some r := h
 clear h
 by_cases c2 : a0 > 230
 ·rw [if_pos c2] at H
  have c2b0 : decide (230 < a0) = true := decide_eq_true c2
  clear c2
  obtain ⟨y204, hy204⟩ : ∃ y_ : List Int, y_ = (([2097151, 2097152, 8589934591, 8589934592, 1099511627776, (-1), 4611686018427387904] : List Int)) := ⟨_, rfl⟩
  replace H : (if 0 ≤ (Int.tmod a0 7) then (if (Int.tmod a0 7) < (y204.length : Int) then (some (rd y204 (Int.tmod a0 7))) else (none)) else (none)) = some r := by first | (rw [hy204]; with_reducible exact H) | (have H2_ := (Option.bind_some _ _).symm.trans H; rw [hy204]; with_reducible exact H2_) | (have H2_ := (Option.bind_some _ _).symm.trans H; with_reducible exact H2_) | with_reducible exact H | (rw [hy204]; exact H) | exact H
  have Ny204 := Aside0.mk hy204
  clear hy204
  obtain ⟨ji3, hji3⟩ : ∃ j_ : Int, (Int.tmod a0 7) = j_ := ⟨_, rfl⟩
  replace H : (if 0 ≤ (ji3) then (if (ji3) < (y204.length : Int) then (some (rd y204 (ji3))) else (none)) else (none)) = some r := by first | (rw [hji3] at H; exact H) | (simp only [hji3] at H ⊢; exact H)
  by_cases c4 : 0 ≤ (ji3)
  ·rw [if_pos c4] at H
   have c4b0 : decide (0 ≤ (ji3)) = true := decide_eq_true c4
   clear c4
   by_cases c5 : (ji3) < (y204.length : Int)
   ·rw [if_pos c5] at H
    have c5b0 : decide ((ji3) < (y204.length : Int)) = true := decide_eq_true c5
    clear c5
    obtain rfl := Option.some.inj H
    go_enter Tryd.func20, Tryd.ntmps20
    go_wp2_with (first | ((with_reducible refine gate_dst (N := 5) rfl ?_); refine Kd.R_lit (Kd.int .i64) _ 3 ?hg (N := 5) ?hd (xs := ([2097151, 2097152, 8589934591, 8589934592, 1099511627776, (-1), 4611686018427387904] : List Int)) (inner := [.int .i64 2097151, .int .i64 2097152, .int .i64 8589934591, .int .i64 8589934592, .int .i64 1099511627776, .int .i64 (-1), .int .i64 4611686018427387904]) (ok := fun _ => True) (okp := fun _ => True) ?hr ?hp (fun _ hk => hk) trivial (Below.refl _ _) (Nat.le_refl _) (by simp) ?_; (case hd => rfl); (case hg => rfl); (case hr => first | (go_simp; done) | (go_simp; rfl)); (case hp => exact (Reps.one (show Kd.M (Kd.int .i64) _ _ _ 2097151 [.int .i64 2097151] from rfl) (Reps.one (show Kd.M (Kd.int .i64) _ _ _ 2097152 [.int .i64 2097152] from rfl) (Reps.one (show Kd.M (Kd.int .i64) _ _ _ 8589934591 [.int .i64 8589934591] from rfl) (Reps.one (show Kd.M (Kd.int .i64) _ _ _ 8589934592 [.int .i64 8589934592] from rfl) (Reps.one (show Kd.M (Kd.int .i64) _ _ _ 1099511627776 [.int .i64 1099511627776] from rfl) (Reps.one (show Kd.M (Kd.int .i64) _ _ _ (-1) [.int .i64 (-1)] from rfl) (Reps.one (show Kd.M (Kd.int .i64) _ _ _ 4611686018427387904 [.int .i64 4611686018427387904] from rfl) (Reps.none _ _))))))))); intro v205 w6 ho7 hb hg_ hnew_; clear hg_ hnew_; (first | rw [← Ny204.out] at ho7 | (simp only [Int.reduceToNat] at ho7; rw [← Ny204.out] at ho7)); have n0_ := Aside0.mk (Kd.R_lower ho7 (below_size (by repeat (first | (with_reducible first | exact HB.out | apply below_alloc | apply pw_below_drewN | apply below_drew1) | exact HB.out)))); have n1_ := Aside0.mk (below_step (by repeat (first | (with_reducible first | exact HB.out | apply below_alloc | apply pw_below_drewN | apply below_drew1) | exact HB.out)) hb); clear HB; have HO206 := n0_; have HB := n1_; clear n0_ n1_; clear hb ho7; obtain ⟨Ao8, co8, eo8⟩ := Kd.R_slice HO206.out; subst eo8; have p207 : 0 ≤ ((ji3) : Int) := of_decide_eq_true (by first | (with_reducible assumption) | assumption); have q207 : (ji3) < (y204.length : Int) := of_decide_eq_true (by first | (with_reducible assumption) | assumption); obtain ⟨ad207, e207, hx207_0⟩ := Kd.at_int (Kd.R_reads' HO206.out).2.2 (ji3) p207 q207; cases e207; replace p207 := eq_true p207; replace q207 := eq_true q207))
    go_ret
    exact ⟨by first | rfl | (simp [errW_none, errW_some] <;> rfl) | (simp only [← hji3]; first | rfl | (simp [errW_none, errW_some] <;> rfl)) | (simp [*, errW_none, errW_some] <;> rfl), by repeat (first | (with_reducible first | exact HB.out | apply below_alloc | apply pw_below_drewN | apply below_drew1) | exact HB.out)⟩
   ·rw [if_neg c5] at H
    exact absurd H (by simp)
  ·rw [if_neg c4] at H
   exact absurd H (by simp)
 ·rw [if_neg c2] at H
  have c2b0 : decide (230 < a0) = false := decide_eq_false c2
  clear c2
  obtain rfl := Option.some.inj H
  go_enter Tryd.func20, Tryd.ntmps20
  go_wp2
  go_ret
  exact ⟨by first | rfl | (simp [errW_none, errW_some] <;> rfl) | (simp [*, errW_none, errW_some] <;> rfl), by repeat (first | (with_reducible first | exact HB.out | apply below_alloc | apply pw_below_drewN | apply below_drew1) | exact HB.out)⟩
end Go.Proofs.YtdeolcgabkkocaaDoor.P
