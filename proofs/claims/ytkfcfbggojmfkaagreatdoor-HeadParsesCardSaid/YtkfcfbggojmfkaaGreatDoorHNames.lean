/- Functions of the reference, walked (the kit's print). No conditions. -/
import Derived.Test.YtkfcfbggojmfkaaGreatDoorPx0
namespace Go.Proofs.YtkfcfbggojmfkaaGreatDoor.P
open Go.RowKit Go.Proofs.YtkfcfbggojmfkaaGreatDoorW.PrintWords Go.Proofs.YtkfcfbggojmfkaaGreatDoorW.PrintLast Go.Proofs.YtkfcfbggojmfkaaGreatDoorW.PrintMore
attribute [local go_sem] max2_int min2_int max_two min_two max_three min_three max_four min_four   -- for this text's walks alone
set_option linter.unusedVariables false
set_option linter.unusedSimpArgs false

/-! ### mudlarklaw08_name: function 44 -/
def mudlarklaw08_name.f (a0 : Int) : Option (ByteArray) := if (Int.tmod a0 6) = 0 then (some (⟨#[]⟩ : ByteArray)) else (if (Int.tmod a0 6) = 1 then (some (⟨#[100, 105, 114, 47]⟩ : ByteArray)) else (if (Int.tmod a0 6) = 2 then (some (⟨#[97, 32, 108, 111, 110, 103, 32, 110, 97, 109, 101, 44, 32, 111, 102, 32, 115, 111, 109, 101, 32, 102, 111, 114, 116, 121, 32, 98, 121, 116, 101, 115, 58, 32, 49, 50, 51, 52, 53, 54]⟩ : ByteArray)) else (if (Int.tmod a0 6) = 3 then (some (⟨#[195, 169]⟩ : ByteArray)) else (some (strOfNums (([(97 + (Int.tmod a0 26)) % 256] : List Int)))))))
set_option maxHeartbeats 8000000 in
set_option maxRecDepth 100000 in
theorem mudlarklaw08_name.calls (a0 : Int) (r : ByteArray) (w : World) (h : mudlarklaw08_name.f a0 = some r) :
  Calls Tryz.prog 44 #[.int .u8 a0] w fun e w' => e = .returned (.string r) ∧ Below w.heap.size w w' := by
 have HB := Aside0.mk (Below.refl w.heap.size w)
 have H : (if (Int.tmod a0 6) = 0 then (some (⟨#[]⟩ : ByteArray)) else (if (Int.tmod a0 6) = 1 then (some (⟨#[100, 105, 114, 47]⟩ : ByteArray)) else (if (Int.tmod a0 6) = 2 then (some (⟨#[97, 32, 108, 111, 110, 103, 32, 110, 97, 109, 101, 44, 32, 111, 102, 32, 115, 111, 109, 101, 32, 102, 111, 114, 116, 121, 32, 98, 121, 116, 101, 115, 58, 32, 49, 50, 51, 52, 53, 54]⟩ : ByteArray)) else (if (Int.tmod a0 6) = 3 then (some (⟨#[195, 169]⟩ : ByteArray)) else (some (strOfNums (([(97 + (Int.tmod a0 26)) % 256] : List Int)))))))) = some r := h
 clear h
 by_cases c2 : (Int.tmod a0 6) = 0
 ·rw [if_pos c2] at H
  have c2b0 : ((Int.tmod a0 6) == 0) = true := beq_iff_eq.mpr c2
  have c2b1 : ((Int.tmod a0 6) != 0) = false := bne_eq_false_iff_eq.mpr c2
  clear c2
  obtain rfl := Option.some.inj H
  go_enter Tryz.func44, Tryz.ntmps44
  go_wp2
  go_ret
  exact ⟨by first | rfl | (simp [errW_none, errW_some] <;> rfl) | (simp [*, errW_none, errW_some] <;> rfl), by repeat (first | (with_reducible first | exact HB.out | apply below_alloc | apply pw_below_drewN | apply below_drew1) | exact HB.out)⟩
 ·rw [if_neg c2] at H
  have c2b0 : ((Int.tmod a0 6) == 0) = false := beq_eq_false_iff_ne.mpr c2
  have c2b1 : ((Int.tmod a0 6) != 0) = true := bne_iff_ne.mpr c2
  by_cases c3 : (Int.tmod a0 6) = 1
  ·rw [if_pos c3] at H
   have c3b0 : ((Int.tmod a0 6) == 1) = true := beq_iff_eq.mpr c3
   have c3b1 : ((Int.tmod a0 6) != 1) = false := bne_eq_false_iff_eq.mpr c3
   clear c3
   obtain rfl := Option.some.inj H
   go_enter Tryz.func44, Tryz.ntmps44
   go_wp2
   go_ret
   exact ⟨by first | rfl | (simp [errW_none, errW_some] <;> rfl) | (simp [*, errW_none, errW_some] <;> rfl), by repeat (first | (with_reducible first | exact HB.out | apply below_alloc | apply pw_below_drewN | apply below_drew1) | exact HB.out)⟩
  ·rw [if_neg c3] at H
   have c3b0 : ((Int.tmod a0 6) == 1) = false := beq_eq_false_iff_ne.mpr c3
   have c3b1 : ((Int.tmod a0 6) != 1) = true := bne_iff_ne.mpr c3
   by_cases c4 : (Int.tmod a0 6) = 2
   ·rw [if_pos c4] at H
    have c4b0 : ((Int.tmod a0 6) == 2) = true := beq_iff_eq.mpr c4
    have c4b1 : ((Int.tmod a0 6) != 2) = false := bne_eq_false_iff_eq.mpr c4
    clear c4
    obtain rfl := Option.some.inj H
    go_enter Tryz.func44, Tryz.ntmps44
    go_wp2
    go_ret
    exact ⟨by first | rfl | (simp [errW_none, errW_some] <;> rfl) | (simp [*, errW_none, errW_some] <;> rfl), by repeat (first | (with_reducible first | exact HB.out | apply below_alloc | apply pw_below_drewN | apply below_drew1) | exact HB.out)⟩
   ·rw [if_neg c4] at H
    have c4b0 : ((Int.tmod a0 6) == 2) = false := beq_eq_false_iff_ne.mpr c4
    have c4b1 : ((Int.tmod a0 6) != 2) = true := bne_iff_ne.mpr c4
    by_cases c5 : (Int.tmod a0 6) = 3
    ·rw [if_pos c5] at H
     have c5b0 : ((Int.tmod a0 6) == 3) = true := beq_iff_eq.mpr c5
     have c5b1 : ((Int.tmod a0 6) != 3) = false := bne_eq_false_iff_eq.mpr c5
     clear c5
     obtain rfl := Option.some.inj H
     go_enter Tryz.func44, Tryz.ntmps44
     go_wp2
     go_ret
     exact ⟨by first | rfl | (simp [errW_none, errW_some] <;> rfl) | (simp [*, errW_none, errW_some] <;> rfl), by repeat (first | (with_reducible first | exact HB.out | apply below_alloc | apply pw_below_drewN | apply below_drew1) | exact HB.out)⟩
    ·rw [if_neg c5] at H
     have c5b0 : ((Int.tmod a0 6) == 3) = false := beq_eq_false_iff_ne.mpr c5
     have c5b1 : ((Int.tmod a0 6) != 3) = true := bne_iff_ne.mpr c5
     obtain ⟨y101, hy101⟩ : ∃ y_ : List Int, y_ = (([(97 + (Int.tmod a0 26)) % 256] : List Int)) := ⟨_, rfl⟩
     replace H : (some (strOfNums y101)) = some r := by first | (rw [hy101]; with_reducible exact H) | (have H2_ := (Option.bind_some _ _).symm.trans H; rw [hy101]; with_reducible exact H2_) | (have H2_ := (Option.bind_some _ _).symm.trans H; with_reducible exact H2_) | with_reducible exact H | (rw [hy101]; exact H) | exact H
     have Ny101 := Aside0.mk hy101
     clear hy101
     obtain rfl := Option.some.inj H
     go_enter Tryz.func44, Tryz.ntmps44
     go_wp2_with (first | ((with_reducible refine gate_dst (N := 16) rfl ?_); refine Kd.R_lit (Kd.int .u8) _ 5 ?hg (N := 16) ?hd (xs := ([(97 + (Int.tmod a0 26)) % 256] : List Int)) (inner := [.int .u8 ((97 + (Int.tmod a0 26)) % 256)]) (ok := fun _ => True) (okp := fun _ => True) ?hr ?hp (fun _ hk => hk) trivial (Below.refl _ _) (Nat.le_refl _) (by simp) ?_; (case hd => rfl); (case hg => rfl); (case hr => first | (go_simp; done) | (go_simp; rfl)); (case hp => exact (Reps.one (show Kd.M (Kd.int .u8) _ _ _ ((97 + (Int.tmod a0 26)) % 256) [.int .u8 ((97 + (Int.tmod a0 26)) % 256)] from rfl) (Reps.none _ _))); intro v102 w6 ho7 hb hg_ hnew_; clear hg_ hnew_; (first | rw [← Ny101.out] at ho7 | (simp only [Int.reduceToNat] at ho7; rw [← Ny101.out] at ho7)); have n0_ := Aside0.mk (Kd.R_lower ho7 (below_size (by repeat (first | (with_reducible first | exact HB.out | apply below_alloc | apply pw_below_drewN | apply below_drew1) | exact HB.out)))); have n1_ := Aside0.mk (below_step (by repeat (first | (with_reducible first | exact HB.out | apply below_alloc | apply pw_below_drewN | apply below_drew1) | exact HB.out)) hb); clear HB; have HO103 := n0_; have HB := n1_; clear n0_ n1_; clear hb ho7; have hcv8 := own_string (P := Tryz.prog) Tryz.underlying22 Tryz.underlying5 Tryz.underlying9 (Kd.own_of_R HO103.out); (try have hcv8d := fun m_ => own_string (P := Tryz.prog) Tryz.underlying22 Tryz.underlying5 Tryz.underlying9 (Kd.own_of_R (Kd.R_drewN HO103.out m_)))))
     go_ret
     exact ⟨by first | rfl | (simp [errW_none, errW_some] <;> rfl) | (simp [*, errW_none, errW_some] <;> rfl), by repeat (first | (with_reducible first | exact HB.out | apply below_alloc | apply pw_below_drewN | apply below_drew1) | exact HB.out)⟩

/-! ### mudlarklaw08_g: function 45 -/
def mudlarklaw08_g.f (l0 : List Int) (a1 : Int) : Option (Int) := if a1 < (l0.length : Int) then (if 0 ≤ a1 then (some (rd l0 a1)) else (none)) else (some 0)
set_option maxHeartbeats 8000000 in
set_option maxRecDepth 100000 in
theorem mudlarklaw08_g.calls (A0 : Option Addr) (c0 : Nat) (l0 : List Int) (a1 : Int) (r : Int) (w : World) (hr0 : Kd.C (Kd.int .u8) w A0 l0.length l0) (hc0 : l0.length ≤ c0) (h : mudlarklaw08_g.f l0 a1 = some r) :
  Calls Tryz.prog 45 #[.slice A0 l0.length c0, .int .i64 a1] w fun e w' => e = .returned (.int .u8 r) ∧ Drawn0 w w' := by
 have HR0 := Aside0.mk hr0
 have HC0 := Aside0.mk hc0
 clear hr0 hc0
 have H : (if a1 < (l0.length : Int) then (if 0 ≤ a1 then (some (rd l0 a1)) else (none)) else (some 0)) = some r := h
 clear h
 by_cases c3 : a1 < (l0.length : Int)
 ·rw [if_pos c3] at H
  have c3b0 : decide (a1 < (l0.length : Int)) = true := decide_eq_true c3
  clear c3
  by_cases c4 : 0 ≤ a1
  ·rw [if_pos c4] at H
   have c4b0 : decide (0 ≤ a1) = true := decide_eq_true c4
   clear c4
   obtain rfl := Option.some.inj H
   have p104 : 0 ≤ (a1 : Int) := of_decide_eq_true (by first | (with_reducible assumption) | assumption)
   have q104 : a1 < (l0.length : Int) := of_decide_eq_true (by first | (with_reducible assumption) | assumption)
   obtain ⟨ad104, e104, hx104_0⟩ := Kd.at_int HR0.out a1 p104 q104
   cases e104
   replace p104 := eq_true p104
   replace q104 := eq_true q104
   go_enter Tryz.func45, Tryz.ntmps45
   go_wp2
   go_ret
   exact ⟨by first | rfl | (simp; done) | (simp [*]; done), by repeat (first | exact Drawn0.refl _ | apply Drawn0.step)⟩
  ·rw [if_neg c4] at H
   exact absurd H (by simp)
 ·rw [if_neg c3] at H
  have c3b0 : decide (a1 < (l0.length : Int)) = false := decide_eq_false c3
  clear c3
  obtain rfl := Option.some.inj H
  go_enter Tryz.func45, Tryz.ntmps45
  go_wp2
  go_ret
  exact ⟨by first | rfl | (simp; done) | (simp [*]; done), by repeat (first | exact Drawn0.refl _ | apply Drawn0.step)⟩

/-! ### mudlarklaw08_number: function 46 -/
def mudlarklaw08_number.f (a0 : Int) : Option (Int) := if a0 > 230 then ((some (([2097151, 2097152, 8589934591, 8589934592, 1099511627776, (-1), 4611686018427387904] : List Int) : List Int)).bind fun y105 => (if 0 ≤ (Int.tmod a0 7) then (if (Int.tmod a0 7) < (y105.length : Int) then (some (rd y105 (Int.tmod a0 7))) else (none)) else (none))) else (some (wrap64 (a0)))
set_option maxHeartbeats 8000000 in
set_option maxRecDepth 100000 in
theorem mudlarklaw08_number.calls (a0 : Int) (r : Int) (w : World) (h : mudlarklaw08_number.f a0 = some r) :
  Calls Tryz.prog 46 #[.int .u8 a0] w fun e w' => e = .returned (.int .i64 r) ∧ Below w.heap.size w w' := by
 have HB := Aside0.mk (Below.refl w.heap.size w)
 have H : (if a0 > 230 then ((some (([2097151, 2097152, 8589934591, 8589934592, 1099511627776, (-1), 4611686018427387904] : List Int) : List Int)).bind fun y105 => (if 0 ≤ (Int.tmod a0 7) then (if (Int.tmod a0 7) < (y105.length : Int) then (some (rd y105 (Int.tmod a0 7))) else (none)) else (none))) else (some (wrap64 (a0)))) = some r := h
 clear h
 by_cases c2 : a0 > 230
 ·rw [if_pos c2] at H
  have c2b0 : decide (230 < a0) = true := decide_eq_true c2
  clear c2
  obtain ⟨y105, hy105⟩ : ∃ y_ : List Int, y_ = (([2097151, 2097152, 8589934591, 8589934592, 1099511627776, (-1), 4611686018427387904] : List Int)) := ⟨_, rfl⟩
  replace H : (if 0 ≤ (Int.tmod a0 7) then (if (Int.tmod a0 7) < (y105.length : Int) then (some (rd y105 (Int.tmod a0 7))) else (none)) else (none)) = some r := by first | (rw [hy105]; with_reducible exact H) | (have H2_ := (Option.bind_some _ _).symm.trans H; rw [hy105]; with_reducible exact H2_) | (have H2_ := (Option.bind_some _ _).symm.trans H; with_reducible exact H2_) | with_reducible exact H | (rw [hy105]; exact H) | exact H
  have Ny105 := Aside0.mk hy105
  clear hy105
  obtain ⟨ji3, hji3⟩ : ∃ j_ : Int, (Int.tmod a0 7) = j_ := ⟨_, rfl⟩
  replace H : (if 0 ≤ (ji3) then (if (ji3) < (y105.length : Int) then (some (rd y105 (ji3))) else (none)) else (none)) = some r := by first | (rw [hji3] at H; exact H) | (simp only [hji3] at H ⊢; exact H)
  by_cases c4 : 0 ≤ (ji3)
  ·rw [if_pos c4] at H
   have c4b0 : decide (0 ≤ (ji3)) = true := decide_eq_true c4
   clear c4
   by_cases c5 : (ji3) < (y105.length : Int)
   ·rw [if_pos c5] at H
    have c5b0 : decide ((ji3) < (y105.length : Int)) = true := decide_eq_true c5
    clear c5
    obtain rfl := Option.some.inj H
    go_enter Tryz.func46, Tryz.ntmps46
    go_wp2_with (first | ((with_reducible refine gate_dst (N := 5) rfl ?_); refine Kd.R_lit (Kd.int .i64) _ 3 ?hg (N := 5) ?hd (xs := ([2097151, 2097152, 8589934591, 8589934592, 1099511627776, (-1), 4611686018427387904] : List Int)) (inner := [.int .i64 2097151, .int .i64 2097152, .int .i64 8589934591, .int .i64 8589934592, .int .i64 1099511627776, .int .i64 (-1), .int .i64 4611686018427387904]) (ok := fun _ => True) (okp := fun _ => True) ?hr ?hp (fun _ hk => hk) trivial (Below.refl _ _) (Nat.le_refl _) (by simp) ?_; (case hd => rfl); (case hg => rfl); (case hr => first | (go_simp; done) | (go_simp; rfl)); (case hp => exact (Reps.one (show Kd.M (Kd.int .i64) _ _ _ 2097151 [.int .i64 2097151] from rfl) (Reps.one (show Kd.M (Kd.int .i64) _ _ _ 2097152 [.int .i64 2097152] from rfl) (Reps.one (show Kd.M (Kd.int .i64) _ _ _ 8589934591 [.int .i64 8589934591] from rfl) (Reps.one (show Kd.M (Kd.int .i64) _ _ _ 8589934592 [.int .i64 8589934592] from rfl) (Reps.one (show Kd.M (Kd.int .i64) _ _ _ 1099511627776 [.int .i64 1099511627776] from rfl) (Reps.one (show Kd.M (Kd.int .i64) _ _ _ (-1) [.int .i64 (-1)] from rfl) (Reps.one (show Kd.M (Kd.int .i64) _ _ _ 4611686018427387904 [.int .i64 4611686018427387904] from rfl) (Reps.none _ _))))))))); intro v106 w6 ho7 hb hg_ hnew_; clear hg_ hnew_; (first | rw [← Ny105.out] at ho7 | (simp only [Int.reduceToNat] at ho7; rw [← Ny105.out] at ho7)); have n0_ := Aside0.mk (Kd.R_lower ho7 (below_size (by repeat (first | (with_reducible first | exact HB.out | apply below_alloc | apply pw_below_drewN | apply below_drew1) | exact HB.out)))); have n1_ := Aside0.mk (below_step (by repeat (first | (with_reducible first | exact HB.out | apply below_alloc | apply pw_below_drewN | apply below_drew1) | exact HB.out)) hb); clear HB; have HO107 := n0_; have HB := n1_; clear n0_ n1_; clear hb ho7; obtain ⟨Ao8, co8, eo8⟩ := Kd.R_slice HO107.out; subst eo8; have p108 : 0 ≤ ((ji3) : Int) := of_decide_eq_true (by first | (with_reducible assumption) | assumption); have q108 : (ji3) < (y105.length : Int) := of_decide_eq_true (by first | (with_reducible assumption) | assumption); obtain ⟨ad108, e108, hx108_0⟩ := Kd.at_int (Kd.R_reads' HO107.out).2.2 (ji3) p108 q108; cases e108; replace p108 := eq_true p108; replace q108 := eq_true q108))
    go_ret
    exact ⟨by first | rfl | (simp [errW_none, errW_some] <;> rfl) | (simp only [← hji3]; first | rfl | (simp [errW_none, errW_some] <;> rfl)) | (simp [*, errW_none, errW_some] <;> rfl), by repeat (first | (with_reducible first | exact HB.out | apply below_alloc | apply pw_below_drewN | apply below_drew1) | exact HB.out)⟩
   ·rw [if_neg c5] at H
    exact absurd H (by simp)
  ·rw [if_neg c4] at H
   exact absurd H (by simp)
 ·rw [if_neg c2] at H
  have c2b0 : decide (230 < a0) = false := decide_eq_false c2
  clear c2
  obtain rfl := Option.some.inj H
  go_enter Tryz.func46, Tryz.ntmps46
  go_wp2
  go_ret
  exact ⟨by first | rfl | (simp [errW_none, errW_some] <;> rfl) | (simp [*, errW_none, errW_some] <;> rfl), by repeat (first | (with_reducible first | exact HB.out | apply below_alloc | apply pw_below_drewN | apply below_drew1) | exact HB.out)⟩

end Go.Proofs.YtkfcfbggojmfkaaGreatDoor.P
