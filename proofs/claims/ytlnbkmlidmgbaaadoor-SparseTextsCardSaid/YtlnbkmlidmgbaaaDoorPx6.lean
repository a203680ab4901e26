/- Lean functions with the answers of the Go functions of this seat, and for each the proof that the Go code comes to them (made by the session's program over the kit's print). No conditions. -/
import Derived.Test.YtlnbkmlidmgbaaaDoorPx0
import Derived.Test.YtlnbkmlidmgbaaaDoorPx5
namespace Go.Proofs.YtlnbkmlidmgbaaaDoor.P
open Go.RowKit Go.Proofs.YtlnbkmlidmgbaaaDoorW.PrintWords Go.Proofs.YtlnbkmlidmgbaaaDoorW.PrintLast Go.Proofs.YtlnbkmlidmgbaaaDoorW.PrintMore
attribute [local go_sem] max2_int min2_int max_two min_two max_three min_three max_four min_four   -- for this text's walks alone
set_option linter.unusedVariables false
set_option linter.unusedSimpArgs false

/-! ### mudlarkref09_Print: function 31 -/
def mudlarkref09_Print.l0 : Nat → List (S40) → ByteArray → Int → Option (ByteArray)
 | 0, _, _, _ => none
 | k + 1, x0, x3, x4 => if x4 < (x0.length : Int) then (if x4 > 0 then (if x3.size + 1 ≤ 9223372036854775807 then (if 0 ≤ x4 then ((mudlarkref09_number.f ((rd_T40 x0 x4).f0)).bind fun t136 => (if (x3 ++ (⟨#[44]⟩ : ByteArray)).size + t136.size ≤ 9223372036854775807 then (if ((x3 ++ (⟨#[44]⟩ : ByteArray)) ++ t136).size + 1 ≤ 9223372036854775807 then ((mudlarkref09_number.f ((rd_T40 x0 x4).f1)).bind fun t138 => (if (((x3 ++ (⟨#[44]⟩ : ByteArray)) ++ t136) ++ (⟨#[44]⟩ : ByteArray)).size + t138.size ≤ 9223372036854775807 then (mudlarkref09_Print.l0 k x0 ((((x3 ++ (⟨#[44]⟩ : ByteArray)) ++ t136) ++ (⟨#[44]⟩ : ByteArray)) ++ t138) (wrap64 (x4 + 1))) else (none))) else (none)) else (none))) else (none)) else (none)) else (if 0 ≤ x4 then ((mudlarkref09_number.f ((rd_T40 x0 x4).f0)).bind fun t140 => (if x3.size + t140.size ≤ 9223372036854775807 then (if (x3 ++ t140).size + 1 ≤ 9223372036854775807 then ((mudlarkref09_number.f ((rd_T40 x0 x4).f1)).bind fun t142 => (if ((x3 ++ t140) ++ (⟨#[44]⟩ : ByteArray)).size + t142.size ≤ 9223372036854775807 then (mudlarkref09_Print.l0 k x0 (((x3 ++ t140) ++ (⟨#[44]⟩ : ByteArray)) ++ t142) (wrap64 (x4 + 1))) else (none))) else (none)) else (none))) else (none))) else (some x3)
def mudlarkref09_Print.f (k : Nat) (l0 : List (S40)) : Option (ByteArray) := mudlarkref09_Print.l0 k l0 (⟨#[]⟩ : ByteArray) 0
theorem mudlarkref09_Print.mono_l : ∀ k, (∀ y0 y1 y2, LeO (mudlarkref09_Print.l0 k y0 y1 y2) (mudlarkref09_Print.l0 (k + 1) y0 y1 y2))
 | 0 => fun _ _ _ r h => by simp [mudlarkref09_Print.l0] at h
 | k + 1 => by
  have ih0 := mudlarkref09_Print.mono_l k
  ·intro y0 y1 y2
   unfold mudlarkref09_Print.l0
   repeat' first
   | (with_reducible exact ih0 _ _ _)
   | (with_reducible exact LeO.refl _)
   | (with_reducible exact LeO.none _)
   | (with_reducible refine LeO.ite ?_ ?_)
   | (with_reducible refine LeO.bind ?_ (fun _ => ?_))
   | exact ih0 _ _ _
   | exact LeO.none _
   | refine LeO.ite ?_ ?_
   | refine LeO.bind ?_ (fun _ => ?_)
theorem mudlarkref09_Print.mono : ∀ a0 k, LeO (mudlarkref09_Print.f k a0) (mudlarkref09_Print.f (k + 1) a0) := by
 intro a0 k
 have ih0 := mudlarkref09_Print.mono_l k
 unfold mudlarkref09_Print.f
 repeat' first
   | (with_reducible exact ih0 _ _ _)
   | (with_reducible exact LeO.refl _)
   | (with_reducible exact LeO.none _)
   | (with_reducible refine LeO.ite ?_ ?_)
   | (with_reducible refine LeO.bind ?_ (fun _ => ?_))
   | exact ih0 _ _ _
   | exact LeO.none _
   | refine LeO.ite ?_ ?_
   | refine LeO.bind ?_ (fun _ => ?_)
def mudlarkref09_Print.T7 : Bool × List (List Nat × List Nat) := (true, [([], []), ([], []), ([], []), ([1, 2], [1, 2]), ([3], [3]), ([4], [4]), ([5], [5]), ([0, 6], [0, 6]), ([7], [7]), ([], []), ([], []), ([9, 10], [9, 10]), ([11], [11]), ([12], [12]), ([13, 6], [13]), ([8, 14], [8, 14]), ([15, 14, 0, 1, 2, 3, 4, 5, 6, 7, 8, 9, 10, 11, 12, 13, 14, 15], [0, 15])])
def mudlarkref09_Print.B7 : List Nat := [0, 0, 0, 6, 14, 30, 62, 127, 255, 0, 0, 1536, 3584, 7680, 15998, 32767, 65535]
theorem mudlarkref09_Print.tab7 : rtab .any (opsOf Tryd.f31 7) = mudlarkref09_Print.T7 := by kernel_rfl
theorem mudlarkref09_Print.bits7 : waitsOk mudlarkref09_Print.T7.2 mudlarkref09_Print.B7 = true := by kernel_rfl
set_option maxHeartbeats 8000000 in
set_option maxRecDepth 100000 in
theorem mudlarkref09_Print.calls (k : Nat) (A0 : Option Addr) (c0 : Nat) (l0 : List (S40)) (r : ByteArray) (w : World) (hr0 : Kd.C k40 w A0 l0.length l0) (hc0 : l0.length ≤ c0) (h : mudlarkref09_Print.f k l0 = some r) (HT_ : Tabs w) :
  Calls Tryd.prog 31 #[.slice A0 l0.length c0] w fun e w' => e = .returned (.string r) ∧ Below w.heap.size w w' := by
 have HT := Aside0.mk HT_
 clear HT_
 have HR0 := Aside0.mk hr0
 have HC0 := Aside0.mk hc0
 clear hr0 hc0
 have HB := Aside0.mk (Below.refl w.heap.size w)
 have H : (mudlarkref09_Print.l0 k l0 (⟨#[]⟩ : ByteArray) 0) = some r := h
 clear h
 have H' := Aside0.mk H
 clear H
 go_enter Tryd.func31, Tryd.ntmps31
 go_wp2
 go_loopg [3, 4] k (fun kq v3 v4 w' => ∃ (x3_1 : ByteArray) (x4_1 : Int), v3 = .string x3_1 ∧ v4 = .int .i64 x4_1 ∧ Aside0 (mudlarkref09_Print.l0 kq l0 x3_1 x4_1 = some r) ∧ Aside0 (kq ≤ k) ∧ Aside0 (Below w.heap.size w w'))
 case atStart => exact ⟨((⟨#[]⟩ : ByteArray)), (0), (by first | rfl | (simp; done) | (simp [*]; done)), (by first | rfl | (simp; done) | (simp [*]; done)), H', ⟨Nat.le_refl _⟩, ⟨by repeat (first | (with_reducible first | exact HB.out | apply below_alloc | apply pw_below_drewN | apply below_drew1) | exact HB.out)⟩⟩
 case round =>
  clear H'
  obtain ⟨x3_1, x4_1, rfl, rfl, HA, HK1, HB⟩ := hrel
  cases gk with
  | zero => exact absurd HA.out (by simp [mudlarkref09_Print.l0])
  | succ k1 =>
   have H := HA.out
   clear HA
   simp only [mudlarkref09_Print.l0] at H
   by_cases c2 : x4_1 < (l0.length : Int)
   ·rw [if_pos c2] at H
    have c2b0 : decide (x4_1 < (l0.length : Int)) = true := decide_eq_true c2
    clear c2
    by_cases c3 : x4_1 > 0
    ·rw [if_pos c3] at H
     have c3b0 : decide (0 < x4_1) = true := decide_eq_true c3
     clear c3
     by_cases c4 : x3_1.size + 1 ≤ 9223372036854775807
     ·rw [if_pos c4] at H
      have c4b0 := eq_true c4
      have c4b1 : decide (x3_1.size + 1 ≤ 9223372036854775807) = true := decide_eq_true c4
      try have c4b2 : (9223372036854775807 < x3_1.size + 1) = False := eq_false (Nat.not_lt.2 c4)
      by_cases c5 : 0 ≤ x4_1
      ·rw [if_pos c5] at H
       have c5b0 : decide (0 ≤ x4_1) = true := decide_eq_true c5
       clear c5
       replace H := Option.bind_eq_some_iff.mp H
       obtain ⟨t136, A60, H⟩ := H
       replace H : (if (x3_1 ++ (⟨#[44]⟩ : ByteArray)).size + t136.size ≤ 9223372036854775807 then (if ((x3_1 ++ (⟨#[44]⟩ : ByteArray)) ++ t136).size + 1 ≤ 9223372036854775807 then ((mudlarkref09_number.f ((rd_T40 l0 x4_1).f1)).bind fun t138 => (if (((x3_1 ++ (⟨#[44]⟩ : ByteArray)) ++ t136) ++ (⟨#[44]⟩ : ByteArray)).size + t138.size ≤ 9223372036854775807 then (mudlarkref09_Print.l0 k1 l0 ((((x3_1 ++ (⟨#[44]⟩ : ByteArray)) ++ t136) ++ (⟨#[44]⟩ : ByteArray)) ++ t138) (wrap64 (x4_1 + 1))) else (none))) else (none)) else (none)) = some r := H
       have A6 := Aside0.mk A60
       clear A60
       by_cases c7 : (x3_1 ++ (⟨#[44]⟩ : ByteArray)).size + t136.size ≤ 9223372036854775807
       ·rw [if_pos c7] at H
        have c7b0 := eq_true c7
        have c7b1 : decide ((x3_1 ++ (⟨#[44]⟩ : ByteArray)).size + t136.size ≤ 9223372036854775807) = true := decide_eq_true c7
        try have c7b2 : (9223372036854775807 < (x3_1 ++ (⟨#[44]⟩ : ByteArray)).size + t136.size) = False := eq_false (Nat.not_lt.2 c7)
        (try have c7n : (9223372036854775807 < x3_1.size + 1 + t136.size) = False := eq_false (by have h_ := c7; simp only [ByteArray.size_append, ByteArray.size_extract] at h_; have : (⟨#[44]⟩ : ByteArray).size = 1 := rfl; omega))
        by_cases c8 : ((x3_1 ++ (⟨#[44]⟩ : ByteArray)) ++ t136).size + 1 ≤ 9223372036854775807
        ·rw [if_pos c8] at H
         have c8b0 := eq_true c8
         have c8b1 : decide (((x3_1 ++ (⟨#[44]⟩ : ByteArray)) ++ t136).size + 1 ≤ 9223372036854775807) = true := decide_eq_true c8
         try have c8b2 : (9223372036854775807 < ((x3_1 ++ (⟨#[44]⟩ : ByteArray)) ++ t136).size + 1) = False := eq_false (Nat.not_lt.2 c8)
         (try have c8n : (9223372036854775807 < x3_1.size + 1 + t136.size + 1) = False := eq_false (by have h_ := c8; simp only [ByteArray.size_append, ByteArray.size_extract] at h_; have : (⟨#[44]⟩ : ByteArray).size = 1 := rfl; omega))
         replace H := Option.bind_eq_some_iff.mp H
         obtain ⟨t138, A90, H⟩ := H
         replace H : (if (((x3_1 ++ (⟨#[44]⟩ : ByteArray)) ++ t136) ++ (⟨#[44]⟩ : ByteArray)).size + t138.size ≤ 9223372036854775807 then (mudlarkref09_Print.l0 k1 l0 ((((x3_1 ++ (⟨#[44]⟩ : ByteArray)) ++ t136) ++ (⟨#[44]⟩ : ByteArray)) ++ t138) (wrap64 (x4_1 + 1))) else (none)) = some r := H
         have A9 := Aside0.mk A90
         clear A90
         by_cases c10 : (((x3_1 ++ (⟨#[44]⟩ : ByteArray)) ++ t136) ++ (⟨#[44]⟩ : ByteArray)).size + t138.size ≤ 9223372036854775807
         ·rw [if_pos c10] at H
          have c10b0 := eq_true c10
          have c10b1 : decide ((((x3_1 ++ (⟨#[44]⟩ : ByteArray)) ++ t136) ++ (⟨#[44]⟩ : ByteArray)).size + t138.size ≤ 9223372036854775807) = true := decide_eq_true c10
          try have c10b2 : (9223372036854775807 < (((x3_1 ++ (⟨#[44]⟩ : ByteArray)) ++ t136) ++ (⟨#[44]⟩ : ByteArray)).size + t138.size) = False := eq_false (Nat.not_lt.2 c10)
          (try have c10n : (9223372036854775807 < x3_1.size + 1 + t136.size + 1 + t138.size) = False := eq_false (by have h_ := c10; simp only [ByteArray.size_append, ByteArray.size_extract] at h_; have : (⟨#[44]⟩ : ByteArray).size = 1 := rfl; omega))
          have H' := Aside0.mk H
          clear H
          try go_wp2
          have n0_ := Aside0.mk (below_drew1 HB.out)
          clear HB
          have HB := n0_
          clear n0_
          have p135 : 0 ≤ (x4_1 : Int) := of_decide_eq_true (by first | (with_reducible assumption) | assumption)
          have q135 : x4_1 < (l0.length : Int) := of_decide_eq_true (by first | (with_reducible assumption) | assumption)
          obtain ⟨ad135, e135, hx135_0, hx135_1⟩ := at_T40 HR0.out x4_1 p135 q135
          have hw135_1 := hx135_1
          have hw135_0 := hx135_0
          cases e135
          replace hx135_0 := (HB.out.cell (World.block_lt_of_cell? w _ hx135_0)).trans hx135_0
          replace hx135_1 := (HB.out.cell (World.block_lt_of_cell? w _ hx135_1)).trans hx135_1
          replace p135 := eq_true p135
          replace q135 := eq_true q135
          have p137 : 0 ≤ (x4_1 : Int) := of_decide_eq_true (by first | (with_reducible assumption) | assumption)
          have q137 : x4_1 < (l0.length : Int) := of_decide_eq_true (by first | (with_reducible assumption) | assumption)
          obtain ⟨ad137, e137, hx137_0, hx137_1⟩ := at_T40 HR0.out x4_1 p137 q137
          have hw137_1 := hx137_1
          have hw137_0 := hx137_0
          obtain rfl : ad135 = ad137 := (by injection e137)
          replace hx137_0 := (HB.out.cell (World.block_lt_of_cell? w _ hx137_0)).trans hx137_0
          replace hx137_1 := (HB.out.cell (World.block_lt_of_cell? w _ hx137_1)).trans hx137_1
          replace p137 := eq_true p137
          replace q137 := eq_true q137
          refine start_ (n := 17) (S := fun w' => w'.cell? (ad135.add ((x4_1).toNat * 2)) = some (.int .i64 ((rd_T40 l0 x4_1).f0)) ∧ w'.cell? ⟨(ad135.add ((x4_1).toNat * 2)).block, (ad135.add ((x4_1).toNat * 2)).off + 1, none⟩ = some (.int .i64 ((rd_T40 l0 x4_1).f1)) ∧ w'.cell? (ad135.add ((x4_1).toNat * 2)) = some (.int .i64 ((rd_T40 l0 x4_1).f0)) ∧ w'.cell? ⟨(ad135.add ((x4_1).toNat * 2)).block, (ad135.add ((x4_1).toNat * 2)).off + 1, none⟩ = some (.int .i64 ((rd_T40 l0 x4_1).f1))) (ds := []) #[false, false, false, false, false, false, false, false, false, false, false, false, false, false, false, false, false] (by kernel_rfl) rfl rfl ⟨((HB.out.cell (World.block_lt_of_cell? w _ hw135_0)).trans hw135_0), ((HB.out.cell (World.block_lt_of_cell? w _ hw135_1)).trans hw135_1), ((HB.out.cell (World.block_lt_of_cell? w _ hw137_0)).trans hw137_0), ((HB.out.cell (World.block_lt_of_cell? w _ hw137_1)).trans hw137_1)⟩ (fun hHeld => ?_); refine with_tabW mudlarkref09_Print.tab7 mudlarkref09_Print.bits7 (fun HT_ HW_ => ?_)
          generalize wr.drew = w11 at HB hx135_0 hx135_1 hx137_0 hx137_1 hHeld ⊢
          refine pure_ (i := 0) (N := some 15) (v := ?_) (a' := ?_) #[true, false, false, false, false, false, false, false, false, false, false, false, false, false, false, false, false] rfl rfl (any_of HT_.out (by kernel_rfl)) (fun _ _ _ h => h) (Or.inl ⟨by rfl, ?_⟩) ?_ ?_
          rotate_left
          ·intro w'
           go_simp
           with_reducible rfl
          rotate_left
          ·simp only [Act.put, List.setIfInBounds_toArray, List.set_cons_zero, List.set_cons_succ, i64_w, i32_w]
           rfl
          refine pure_ (i := 1) (N := some 16) (v := ?_) (a' := ?_) #[true, true, false, false, false, false, false, false, false, false, false, false, false, false, false, false, false] rfl rfl (any_of HT_.out (by kernel_rfl)) (fun _ _ _ h => h) (Or.inl ⟨by rfl, ?_⟩) ?_ ?_
          rotate_left
          ·intro w'
           go_simp
           with_reducible rfl
          rotate_left
          ·simp only [Act.put, List.setIfInBounds_toArray, List.set_cons_zero, List.set_cons_succ, i64_w, i32_w]
           rfl
          refine pure_ (i := 2) (N := some 17) (v := ?_) (a' := ?_) #[true, true, true, false, false, false, false, false, false, false, false, false, false, false, false, false, false] rfl rfl (any_of HT_.out (by kernel_rfl)) (fun _ _ _ h => h) (Or.inl ⟨by rfl, ?_⟩) ?_ ?_
          rotate_left
          ·intro w'
           go_simp
           with_reducible rfl
          rotate_left
          ·simp only [Act.put, List.setIfInBounds_toArray, List.set_cons_zero, List.set_cons_succ, i64_w, i32_w]
           rfl
          refine pure_ (i := 3) (N := some 18) (v := ?_) (a' := ?_) #[true, true, true, true, false, false, false, false, false, false, false, false, false, false, false, false, false] rfl rfl (any_of HT_.out (by kernel_rfl)) (fun _ _ _ h => h) (Or.inl ⟨by rfl, ?_⟩) ?_ ?_
          rotate_left
          ·intro w'
           go_simp
           with_reducible rfl
          rotate_left
          ·simp only [Act.put, List.setIfInBounds_toArray, List.set_cons_zero, List.set_cons_succ, i64_w, i32_w]
           rfl
          refine pure_ (i := 4) (N := some 19) (v := ?_) (a' := ?_) #[true, true, true, true, true, false, false, false, false, false, false, false, false, false, false, false, false] rfl rfl (any_of HT_.out (by kernel_rfl)) (fun _ _ _ h => h) (Or.inl ⟨by rfl, ?_⟩) ?_ ?_
          rotate_left
          ·intro w'
           go_simp
           with_reducible rfl
          rotate_left
          ·simp only [Act.put, List.setIfInBounds_toArray, List.set_cons_zero, List.set_cons_succ, i64_w, i32_w]
           rfl
          refine pure_ (i := 9) (N := some 24) (v := ?_) (a' := ?_) #[true, true, true, true, true, false, false, false, false, true, false, false, false, false, false, false, false] rfl rfl (any_of HT_.out (by kernel_rfl)) (fun _ _ _ h => h) (Or.inl ⟨by rfl, ?_⟩) ?_ ?_
          rotate_left
          ·intro w'
           go_simp
           with_reducible rfl
          rotate_left
          ·simp only [Act.put, List.setIfInBounds_toArray, List.set_cons_zero, List.set_cons_succ, i64_w, i32_w]
           rfl
          refine pure_ (i := 10) (N := some 25) (v := ?_) (a' := ?_) #[true, true, true, true, true, false, false, false, false, true, true, false, false, false, false, false, false] rfl rfl (any_of HT_.out (by kernel_rfl)) (fun _ _ _ h => h) (Or.inl ⟨by rfl, ?_⟩) ?_ ?_
          rotate_left
          ·intro w'
           go_simp
           with_reducible rfl
          rotate_left
          ·simp only [Act.put, List.setIfInBounds_toArray, List.set_cons_zero, List.set_cons_succ, i64_w, i32_w]
           rfl
          refine pure_ (i := 11) (N := some 26) (v := ?_) (a' := ?_) #[true, true, true, true, true, false, false, false, false, true, true, true, false, false, false, false, false] rfl rfl (any_of HT_.out (by kernel_rfl)) (fun _ _ _ h => h) (Or.inl ⟨by rfl, ?_⟩) ?_ ?_
          rotate_left
          ·intro w'
           go_simp
           with_reducible rfl
          rotate_left
          ·simp only [Act.put, List.setIfInBounds_toArray, List.set_cons_zero, List.set_cons_succ, i64_w, i32_w]
           rfl
          refine pure_ (i := 12) (N := some 27) (v := ?_) (a' := ?_) #[true, true, true, true, true, false, false, false, false, true, true, true, true, false, false, false, false] rfl rfl (any_of HT_.out (by kernel_rfl)) (fun _ _ _ h => h) (Or.inl ⟨by rfl, ?_⟩) ?_ ?_
          rotate_left
          ·intro w'
           go_simp
           with_reducible rfl
          rotate_left
          ·simp only [Act.put, List.setIfInBounds_toArray, List.set_cons_zero, List.set_cons_succ, i64_w, i32_w]
           rfl
          refine take_ (i := 5) (N := some 20) (v := ?_) (a' := ?_) #[true, true, true, true, true, true, false, false, false, true, true, true, true, false, false, false, false] rfl rfl (take_ofW HT_.out HW_.out (by kernel_rfl)) (fun _ _ _ h => h) (Or.inl ⟨by rfl, ?_⟩) hHeld ?_ ?_
          rotate_left
          ·rintro w' ⟨s0, s1, s2, s3⟩
           go_simp
           with_reducible rfl
          rotate_left
          ·simp only [Act.put, List.setIfInBounds_toArray, List.set_cons_zero, List.set_cons_succ, i64_w, i32_w]
           rfl
          refine take_ (i := 13) (N := some 28) (v := ?_) (a' := ?_) #[true, true, true, true, true, true, false, false, false, true, true, true, true, true, false, false, false] rfl rfl (take_ofW HT_.out HW_.out (by kernel_rfl)) (fun _ _ _ h => h) (Or.inl ⟨by rfl, ?_⟩) hHeld ?_ ?_
          rotate_left
          ·rintro w' ⟨s0, s1, s2, s3⟩
           go_simp
           with_reducible rfl
          rotate_left
          ·simp only [Act.put, List.setIfInBounds_toArray, List.set_cons_zero, List.set_cons_succ, i64_w, i32_w]
           rfl
          refine one_ (i := 6) (N := some 21) #[true, true, true, true, true, true, true, false, false, true, true, true, true, true, false, false, false] rfl rfl (one_of HT_.out (by kernel_rfl)) (by decide) (fun K hK => ?_)
          refine goes_ Tryd.func46 (by kernel_rfl) rfl #[.int .i64 ((rd_T40 l0 x4_1).f0)] (by rfl) rfl rfl (by (try simp only [List.map_toArray, List.map_cons, List.map_nil]); first | done | rfl | (simp only [List.length_drop, List.length_take]; rfl)) ?_
          with_reducible refine (mudlarkref09_number.calls ((rd_T40 l0 x4_1).f0) t136 _ A6.out (HT.out.below (by repeat (first | (with_reducible first | exact HB.out | apply below_alloc | apply pw_below_drewN | apply below_drew1) | exact HB.out)))).mono ?_
          rintro e w12 ⟨rfl, hb⟩
          refine ⟨_, rfl, ?_⟩
          have n0_ := Aside0.mk (below_step (by repeat (first | (with_reducible first | exact HB.out | apply below_alloc | apply pw_below_drewN | apply below_drew1) | exact HB.out)) hb)
          clear HB
          have HB := n0_
          clear n0_
          (try clear hb)
          (try clear hb2)
          (try clear hk)
          (try clear hi)
          refine hK.out _ _ ⟨((HB.out.cell (World.block_lt_of_cell? w _ hw135_0)).trans hw135_0), ((HB.out.cell (World.block_lt_of_cell? w _ hw135_1)).trans hw135_1), ((HB.out.cell (World.block_lt_of_cell? w _ hw137_0)).trans hw137_0), ((HB.out.cell (World.block_lt_of_cell? w _ hw137_1)).trans hw137_1)⟩ (fun hHeld => ?_)
          clear hK K
          refine norm_ (a' := ?_) ?_ ?_
          rotate_left
          ·show Act.put _ (some 21) _ = _
           simp only [Act.put, List.setIfInBounds_toArray, List.set_cons_zero, List.set_cons_succ, i64_w, i32_w]
           rfl
          refine pure_ (i := 7) (N := some 22) (v := ?_) (a' := ?_) #[true, true, true, true, true, true, true, true, false, true, true, true, true, true, false, false, false] rfl rfl (any_of HT_.out (by kernel_rfl)) (fun _ _ _ h => h) (Or.inl ⟨by rfl, ?_⟩) ?_ ?_
          rotate_left
          ·intro w'
           go_simp
           with_reducible rfl
          rotate_left
          ·simp only [Act.put, List.setIfInBounds_toArray, List.set_cons_zero, List.set_cons_succ, i64_w, i32_w]
           rfl
          refine pure_ (i := 8) (N := some 23) (v := ?_) (a' := ?_) #[true, true, true, true, true, true, true, true, true, true, true, true, true, true, false, false, false] rfl rfl (any_of HT_.out (by kernel_rfl)) (fun _ _ _ h => h) (Or.inl ⟨by rfl, ?_⟩) ?_ ?_
          rotate_left
          ·intro w'
           go_simp
           with_reducible rfl
          rotate_left
          ·simp only [Act.put, List.setIfInBounds_toArray, List.set_cons_zero, List.set_cons_succ, i64_w, i32_w]
           rfl
          refine one_ (i := 14) (N := some 29) #[true, true, true, true, true, true, true, true, true, true, true, true, true, true, true, false, false] rfl rfl (one_of HT_.out (by kernel_rfl)) (by decide) (fun K hK => ?_)
          refine goes_ Tryd.func46 (by kernel_rfl) rfl #[.int .i64 ((rd_T40 l0 x4_1).f1)] (by rfl) rfl rfl (by (try simp only [List.map_toArray, List.map_cons, List.map_nil]); first | done | rfl | (simp only [List.length_drop, List.length_take]; rfl)) ?_
          with_reducible refine (mudlarkref09_number.calls ((rd_T40 l0 x4_1).f1) t138 _ A9.out (HT.out.below (by repeat (first | (with_reducible first | exact HB.out | apply below_alloc | apply pw_below_drewN | apply below_drew1) | exact HB.out)))).mono ?_
          rintro e w13 ⟨rfl, hb⟩
          refine ⟨_, rfl, ?_⟩
          have n0_ := Aside0.mk (below_step (by repeat (first | (with_reducible first | exact HB.out | apply below_alloc | apply pw_below_drewN | apply below_drew1) | exact HB.out)) hb)
          clear HB
          have HB := n0_
          clear n0_
          (try clear hb)
          (try clear hb2)
          (try clear hk)
          (try clear hi)
          refine hK.out _ _ ⟨((HB.out.cell (World.block_lt_of_cell? w _ hw135_0)).trans hw135_0), ((HB.out.cell (World.block_lt_of_cell? w _ hw135_1)).trans hw135_1), ((HB.out.cell (World.block_lt_of_cell? w _ hw137_0)).trans hw137_0), ((HB.out.cell (World.block_lt_of_cell? w _ hw137_1)).trans hw137_1)⟩ (fun hHeld => ?_)
          clear hK K
          refine norm_ (a' := ?_) ?_ ?_
          rotate_left
          ·show Act.put _ (some 29) _ = _
           simp only [Act.put, List.setIfInBounds_toArray, List.set_cons_zero, List.set_cons_succ, i64_w, i32_w]
           rfl
          refine pure_ (i := 15) (N := some 30) (v := ?_) (a' := ?_) #[true, true, true, true, true, true, true, true, true, true, true, true, true, true, true, true, false] rfl rfl (any_of HT_.out (by kernel_rfl)) (fun _ _ _ h => h) (Or.inl ⟨by rfl, ?_⟩) ?_ ?_
          rotate_left
          ·intro w'
           go_simp
           with_reducible rfl
          rotate_left
          ·simp only [Act.put, List.setIfInBounds_toArray, List.set_cons_zero, List.set_cons_succ, i64_w, i32_w]
           rfl
          refine pure_ (i := 16) (N := some 3) (v := ?_) (a' := ?_) #[true, true, true, true, true, true, true, true, true, true, true, true, true, true, true, true, true] rfl rfl (any_of HT_.out (by kernel_rfl)) (fun _ _ _ h => h) (Or.inl ⟨by rfl, ?_⟩) ?_ ?_
          rotate_left
          ·intro w'
           go_simp
           with_reducible rfl
          rotate_left
          ·simp only [Act.put, List.setIfInBounds_toArray, List.set_cons_zero, List.set_cons_succ, i64_w, i32_w]
           rfl
          refine done_ (done_of HT_.out (by kernel_rfl)) ?_
          try go_wp2
          go_roundg k1
          case measure => have := HK1.out; omega
          case rel => exact ⟨((((x3_1 ++ (⟨#[44]⟩ : ByteArray)) ++ t136) ++ (⟨#[44]⟩ : ByteArray)) ++ t138), (wrap64 (x4_1 + 1)), (by first | rfl | (simp; done) | (simp [*]; done)), (by first | rfl | (simp; done) | (simp [*]; done)), H', ⟨by have := HK1.out; omega⟩, ⟨by repeat (first | (with_reducible first | exact HB.out | apply below_alloc | apply pw_below_drewN | apply below_drew1) | exact HB.out)⟩⟩
         ·rw [if_neg c10] at H
          exact absurd H (by simp)
        ·rw [if_neg c8] at H
         exact absurd H (by simp)
       ·rw [if_neg c7] at H
        exact absurd H (by simp)
      ·rw [if_neg c5] at H
       exact absurd H (by simp)
     ·rw [if_neg c4] at H
      exact absurd H (by simp)
    ·rw [if_neg c3] at H
     have c3b0 : decide (0 < x4_1) = false := decide_eq_false c3
     clear c3
     by_cases c14 : 0 ≤ x4_1
     ·rw [if_pos c14] at H
      have c14b0 : decide (0 ≤ x4_1) = true := decide_eq_true c14
      clear c14
      replace H := Option.bind_eq_some_iff.mp H
      obtain ⟨t140, A150, H⟩ := H
      replace H : (if x3_1.size + t140.size ≤ 9223372036854775807 then (if (x3_1 ++ t140).size + 1 ≤ 9223372036854775807 then ((mudlarkref09_number.f ((rd_T40 l0 x4_1).f1)).bind fun t142 => (if ((x3_1 ++ t140) ++ (⟨#[44]⟩ : ByteArray)).size + t142.size ≤ 9223372036854775807 then (mudlarkref09_Print.l0 k1 l0 (((x3_1 ++ t140) ++ (⟨#[44]⟩ : ByteArray)) ++ t142) (wrap64 (x4_1 + 1))) else (none))) else (none)) else (none)) = some r := H
      have A15 := Aside0.mk A150
      clear A150
      by_cases c16 : x3_1.size + t140.size ≤ 9223372036854775807
      ·rw [if_pos c16] at H
       have c16b0 := eq_true c16
       have c16b1 : decide (x3_1.size + t140.size ≤ 9223372036854775807) = true := decide_eq_true c16
       try have c16b2 : (9223372036854775807 < x3_1.size + t140.size) = False := eq_false (Nat.not_lt.2 c16)
       by_cases c17 : (x3_1 ++ t140).size + 1 ≤ 9223372036854775807
       ·rw [if_pos c17] at H
        have c17b0 := eq_true c17
        have c17b1 : decide ((x3_1 ++ t140).size + 1 ≤ 9223372036854775807) = true := decide_eq_true c17
        try have c17b2 : (9223372036854775807 < (x3_1 ++ t140).size + 1) = False := eq_false (Nat.not_lt.2 c17)
        (try have c17n : (9223372036854775807 < x3_1.size + t140.size + 1) = False := eq_false (by have h_ := c17; simp only [ByteArray.size_append, ByteArray.size_extract] at h_; omega))
        replace H := Option.bind_eq_some_iff.mp H
        obtain ⟨t142, A180, H⟩ := H
        replace H : (if ((x3_1 ++ t140) ++ (⟨#[44]⟩ : ByteArray)).size + t142.size ≤ 9223372036854775807 then (mudlarkref09_Print.l0 k1 l0 (((x3_1 ++ t140) ++ (⟨#[44]⟩ : ByteArray)) ++ t142) (wrap64 (x4_1 + 1))) else (none)) = some r := H
        have A18 := Aside0.mk A180
        clear A180
        by_cases c19 : ((x3_1 ++ t140) ++ (⟨#[44]⟩ : ByteArray)).size + t142.size ≤ 9223372036854775807
        ·rw [if_pos c19] at H
         have c19b0 := eq_true c19
         have c19b1 : decide (((x3_1 ++ t140) ++ (⟨#[44]⟩ : ByteArray)).size + t142.size ≤ 9223372036854775807) = true := decide_eq_true c19
         try have c19b2 : (9223372036854775807 < ((x3_1 ++ t140) ++ (⟨#[44]⟩ : ByteArray)).size + t142.size) = False := eq_false (Nat.not_lt.2 c19)
         (try have c19n : (9223372036854775807 < x3_1.size + t140.size + 1 + t142.size) = False := eq_false (by have h_ := c19; simp only [ByteArray.size_append, ByteArray.size_extract] at h_; have : (⟨#[44]⟩ : ByteArray).size = 1 := rfl; omega))
         have H' := Aside0.mk H
         clear H
         try go_wp2
         have n0_ := Aside0.mk (below_drew1 HB.out)
         clear HB
         have HB := n0_
         clear n0_
         have p139 : 0 ≤ (x4_1 : Int) := of_decide_eq_true (by first | (with_reducible assumption) | assumption)
         have q139 : x4_1 < (l0.length : Int) := of_decide_eq_true (by first | (with_reducible assumption) | assumption)
         obtain ⟨ad139, e139, hx139_0, hx139_1⟩ := at_T40 HR0.out x4_1 p139 q139
         have hw139_1 := hx139_1
         have hw139_0 := hx139_0
         cases e139
         replace hx139_0 := (HB.out.cell (World.block_lt_of_cell? w _ hx139_0)).trans hx139_0
         replace hx139_1 := (HB.out.cell (World.block_lt_of_cell? w _ hx139_1)).trans hx139_1
         replace p139 := eq_true p139
         replace q139 := eq_true q139
         have p141 : 0 ≤ (x4_1 : Int) := of_decide_eq_true (by first | (with_reducible assumption) | assumption)
         have q141 : x4_1 < (l0.length : Int) := of_decide_eq_true (by first | (with_reducible assumption) | assumption)
         obtain ⟨ad141, e141, hx141_0, hx141_1⟩ := at_T40 HR0.out x4_1 p141 q141
         have hw141_1 := hx141_1
         have hw141_0 := hx141_0
         obtain rfl : ad139 = ad141 := (by injection e141)
         replace hx141_0 := (HB.out.cell (World.block_lt_of_cell? w _ hx141_0)).trans hx141_0
         replace hx141_1 := (HB.out.cell (World.block_lt_of_cell? w _ hx141_1)).trans hx141_1
         replace p141 := eq_true p141
         replace q141 := eq_true q141
         refine start_ (n := 17) (S := fun w' => w'.cell? (ad139.add ((x4_1).toNat * 2)) = some (.int .i64 ((rd_T40 l0 x4_1).f0)) ∧ w'.cell? ⟨(ad139.add ((x4_1).toNat * 2)).block, (ad139.add ((x4_1).toNat * 2)).off + 1, none⟩ = some (.int .i64 ((rd_T40 l0 x4_1).f1)) ∧ w'.cell? (ad139.add ((x4_1).toNat * 2)) = some (.int .i64 ((rd_T40 l0 x4_1).f0)) ∧ w'.cell? ⟨(ad139.add ((x4_1).toNat * 2)).block, (ad139.add ((x4_1).toNat * 2)).off + 1, none⟩ = some (.int .i64 ((rd_T40 l0 x4_1).f1))) (ds := []) #[false, false, false, false, false, false, false, false, false, false, false, false, false, false, false, false, false] (by kernel_rfl) rfl rfl ⟨((HB.out.cell (World.block_lt_of_cell? w _ hw139_0)).trans hw139_0), ((HB.out.cell (World.block_lt_of_cell? w _ hw139_1)).trans hw139_1), ((HB.out.cell (World.block_lt_of_cell? w _ hw141_0)).trans hw141_0), ((HB.out.cell (World.block_lt_of_cell? w _ hw141_1)).trans hw141_1)⟩ (fun hHeld => ?_); refine with_tabW mudlarkref09_Print.tab7 mudlarkref09_Print.bits7 (fun HT_ HW_ => ?_)
         generalize wr.drew = w20 at HB hx139_0 hx139_1 hx141_0 hx141_1 hHeld ⊢
         refine pure_ (i := 0) (N := some 15) (v := ?_) (a' := ?_) #[true, false, false, false, false, false, false, false, false, false, false, false, false, false, false, false, false] rfl rfl (any_of HT_.out (by kernel_rfl)) (fun _ _ _ h => h) (Or.inl ⟨by rfl, ?_⟩) ?_ ?_
         rotate_left
         ·intro w'
          go_simp
          with_reducible rfl
         rotate_left
         ·simp only [Act.put, List.setIfInBounds_toArray, List.set_cons_zero, List.set_cons_succ, i64_w, i32_w]
          rfl
         refine pure_ (i := 1) (N := some 16) (v := ?_) (a' := ?_) #[true, true, false, false, false, false, false, false, false, false, false, false, false, false, false, false, false] rfl rfl (any_of HT_.out (by kernel_rfl)) (fun _ _ _ h => h) (Or.inl ⟨by rfl, ?_⟩) ?_ ?_
         rotate_left
         ·intro w'
          go_simp
          with_reducible rfl
         rotate_left
         ·simp only [Act.put, List.setIfInBounds_toArray, List.set_cons_zero, List.set_cons_succ, i64_w, i32_w]
          rfl
         refine pure_ (i := 2) (N := some 17) (v := ?_) (a' := ?_) #[true, true, true, false, false, false, false, false, false, false, false, false, false, false, false, false, false] rfl rfl (any_of HT_.out (by kernel_rfl)) (fun _ _ _ h => h) (Or.inl ⟨by rfl, ?_⟩) ?_ ?_
         rotate_left
         ·intro w'
          go_simp
          with_reducible rfl
         rotate_left
         ·simp only [Act.put, List.setIfInBounds_toArray, List.set_cons_zero, List.set_cons_succ, i64_w, i32_w]
          rfl
         refine pure_ (i := 3) (N := some 18) (v := ?_) (a' := ?_) #[true, true, true, true, false, false, false, false, false, false, false, false, false, false, false, false, false] rfl rfl (any_of HT_.out (by kernel_rfl)) (fun _ _ _ h => h) (Or.inl ⟨by rfl, ?_⟩) ?_ ?_
         rotate_left
         ·intro w'
          go_simp
          with_reducible rfl
         rotate_left
         ·simp only [Act.put, List.setIfInBounds_toArray, List.set_cons_zero, List.set_cons_succ, i64_w, i32_w]
          rfl
         refine pure_ (i := 4) (N := some 19) (v := ?_) (a' := ?_) #[true, true, true, true, true, false, false, false, false, false, false, false, false, false, false, false, false] rfl rfl (any_of HT_.out (by kernel_rfl)) (fun _ _ _ h => h) (Or.inl ⟨by rfl, ?_⟩) ?_ ?_
         rotate_left
         ·intro w'
          go_simp
          with_reducible rfl
         rotate_left
         ·simp only [Act.put, List.setIfInBounds_toArray, List.set_cons_zero, List.set_cons_succ, i64_w, i32_w]
          rfl
         refine pure_ (i := 9) (N := some 24) (v := ?_) (a' := ?_) #[true, true, true, true, true, false, false, false, false, true, false, false, false, false, false, false, false] rfl rfl (any_of HT_.out (by kernel_rfl)) (fun _ _ _ h => h) (Or.inl ⟨by rfl, ?_⟩) ?_ ?_
         rotate_left
         ·intro w'
          go_simp
          with_reducible rfl
         rotate_left
         ·simp only [Act.put, List.setIfInBounds_toArray, List.set_cons_zero, List.set_cons_succ, i64_w, i32_w]
          rfl
         refine pure_ (i := 10) (N := some 25) (v := ?_) (a' := ?_) #[true, true, true, true, true, false, false, false, false, true, true, false, false, false, false, false, false] rfl rfl (any_of HT_.out (by kernel_rfl)) (fun _ _ _ h => h) (Or.inl ⟨by rfl, ?_⟩) ?_ ?_
         rotate_left
         ·intro w'
          go_simp
          with_reducible rfl
         rotate_left
         ·simp only [Act.put, List.setIfInBounds_toArray, List.set_cons_zero, List.set_cons_succ, i64_w, i32_w]
          rfl
         refine pure_ (i := 11) (N := some 26) (v := ?_) (a' := ?_) #[true, true, true, true, true, false, false, false, false, true, true, true, false, false, false, false, false] rfl rfl (any_of HT_.out (by kernel_rfl)) (fun _ _ _ h => h) (Or.inl ⟨by rfl, ?_⟩) ?_ ?_
         rotate_left
         ·intro w'
          go_simp
          with_reducible rfl
         rotate_left
         ·simp only [Act.put, List.setIfInBounds_toArray, List.set_cons_zero, List.set_cons_succ, i64_w, i32_w]
          rfl
         refine pure_ (i := 12) (N := some 27) (v := ?_) (a' := ?_) #[true, true, true, true, true, false, false, false, false, true, true, true, true, false, false, false, false] rfl rfl (any_of HT_.out (by kernel_rfl)) (fun _ _ _ h => h) (Or.inl ⟨by rfl, ?_⟩) ?_ ?_
         rotate_left
         ·intro w'
          go_simp
          with_reducible rfl
         rotate_left
         ·simp only [Act.put, List.setIfInBounds_toArray, List.set_cons_zero, List.set_cons_succ, i64_w, i32_w]
          rfl
         refine take_ (i := 5) (N := some 20) (v := ?_) (a' := ?_) #[true, true, true, true, true, true, false, false, false, true, true, true, true, false, false, false, false] rfl rfl (take_ofW HT_.out HW_.out (by kernel_rfl)) (fun _ _ _ h => h) (Or.inl ⟨by rfl, ?_⟩) hHeld ?_ ?_
         rotate_left
         ·rintro w' ⟨s0, s1, s2, s3⟩
          go_simp
          with_reducible rfl
         rotate_left
         ·simp only [Act.put, List.setIfInBounds_toArray, List.set_cons_zero, List.set_cons_succ, i64_w, i32_w]
          rfl
         refine take_ (i := 13) (N := some 28) (v := ?_) (a' := ?_) #[true, true, true, true, true, true, false, false, false, true, true, true, true, true, false, false, false] rfl rfl (take_ofW HT_.out HW_.out (by kernel_rfl)) (fun _ _ _ h => h) (Or.inl ⟨by rfl, ?_⟩) hHeld ?_ ?_
         rotate_left
         ·rintro w' ⟨s0, s1, s2, s3⟩
          go_simp
          with_reducible rfl
         rotate_left
         ·simp only [Act.put, List.setIfInBounds_toArray, List.set_cons_zero, List.set_cons_succ, i64_w, i32_w]
          rfl
         refine one_ (i := 6) (N := some 21) #[true, true, true, true, true, true, true, false, false, true, true, true, true, true, false, false, false] rfl rfl (one_of HT_.out (by kernel_rfl)) (by decide) (fun K hK => ?_)
         refine goes_ Tryd.func46 (by kernel_rfl) rfl #[.int .i64 ((rd_T40 l0 x4_1).f0)] (by rfl) rfl rfl (by (try simp only [List.map_toArray, List.map_cons, List.map_nil]); first | done | rfl | (simp only [List.length_drop, List.length_take]; rfl)) ?_
         with_reducible refine (mudlarkref09_number.calls ((rd_T40 l0 x4_1).f0) t140 _ A15.out (HT.out.below (by repeat (first | (with_reducible first | exact HB.out | apply below_alloc | apply pw_below_drewN | apply below_drew1) | exact HB.out)))).mono ?_
         rintro e w21 ⟨rfl, hb⟩
         refine ⟨_, rfl, ?_⟩
         have n0_ := Aside0.mk (below_step (by repeat (first | (with_reducible first | exact HB.out | apply below_alloc | apply pw_below_drewN | apply below_drew1) | exact HB.out)) hb)
         clear HB
         have HB := n0_
         clear n0_
         (try clear hb)
         (try clear hb2)
         (try clear hk)
         (try clear hi)
         refine hK.out _ _ ⟨((HB.out.cell (World.block_lt_of_cell? w _ hw139_0)).trans hw139_0), ((HB.out.cell (World.block_lt_of_cell? w _ hw139_1)).trans hw139_1), ((HB.out.cell (World.block_lt_of_cell? w _ hw141_0)).trans hw141_0), ((HB.out.cell (World.block_lt_of_cell? w _ hw141_1)).trans hw141_1)⟩ (fun hHeld => ?_)
         clear hK K
         refine norm_ (a' := ?_) ?_ ?_
         rotate_left
         ·show Act.put _ (some 21) _ = _
          simp only [Act.put, List.setIfInBounds_toArray, List.set_cons_zero, List.set_cons_succ, i64_w, i32_w]
          rfl
         refine pure_ (i := 7) (N := some 22) (v := ?_) (a' := ?_) #[true, true, true, true, true, true, true, true, false, true, true, true, true, true, false, false, false] rfl rfl (any_of HT_.out (by kernel_rfl)) (fun _ _ _ h => h) (Or.inl ⟨by rfl, ?_⟩) ?_ ?_
         rotate_left
         ·intro w'
          go_simp
          with_reducible rfl
         rotate_left
         ·simp only [Act.put, List.setIfInBounds_toArray, List.set_cons_zero, List.set_cons_succ, i64_w, i32_w]
          rfl
         refine pure_ (i := 8) (N := some 23) (v := ?_) (a' := ?_) #[true, true, true, true, true, true, true, true, true, true, true, true, true, true, false, false, false] rfl rfl (any_of HT_.out (by kernel_rfl)) (fun _ _ _ h => h) (Or.inl ⟨by rfl, ?_⟩) ?_ ?_
         rotate_left
         ·intro w'
          go_simp
          with_reducible rfl
         rotate_left
         ·simp only [Act.put, List.setIfInBounds_toArray, List.set_cons_zero, List.set_cons_succ, i64_w, i32_w]
          rfl
         refine one_ (i := 14) (N := some 29) #[true, true, true, true, true, true, true, true, true, true, true, true, true, true, true, false, false] rfl rfl (one_of HT_.out (by kernel_rfl)) (by decide) (fun K hK => ?_)
         refine goes_ Tryd.func46 (by kernel_rfl) rfl #[.int .i64 ((rd_T40 l0 x4_1).f1)] (by rfl) rfl rfl (by (try simp only [List.map_toArray, List.map_cons, List.map_nil]); first | done | rfl | (simp only [List.length_drop, List.length_take]; rfl)) ?_
         with_reducible refine (mudlarkref09_number.calls ((rd_T40 l0 x4_1).f1) t142 _ A18.out (HT.out.below (by repeat (first | (with_reducible first | exact HB.out | apply below_alloc | apply pw_below_drewN | apply below_drew1) | exact HB.out)))).mono ?_
         rintro e w22 ⟨rfl, hb⟩
         refine ⟨_, rfl, ?_⟩
         have n0_ := Aside0.mk (below_step (by repeat (first | (with_reducible first | exact HB.out | apply below_alloc | apply pw_below_drewN | apply below_drew1) | exact HB.out)) hb)
         clear HB
         have HB := n0_
         clear n0_
         (try clear hb)
         (try clear hb2)
         (try clear hk)
         (try clear hi)
         refine hK.out _ _ ⟨((HB.out.cell (World.block_lt_of_cell? w _ hw139_0)).trans hw139_0), ((HB.out.cell (World.block_lt_of_cell? w _ hw139_1)).trans hw139_1), ((HB.out.cell (World.block_lt_of_cell? w _ hw141_0)).trans hw141_0), ((HB.out.cell (World.block_lt_of_cell? w _ hw141_1)).trans hw141_1)⟩ (fun hHeld => ?_)
         clear hK K
         refine norm_ (a' := ?_) ?_ ?_
         rotate_left
         ·show Act.put _ (some 29) _ = _
          simp only [Act.put, List.setIfInBounds_toArray, List.set_cons_zero, List.set_cons_succ, i64_w, i32_w]
          rfl
         refine pure_ (i := 15) (N := some 30) (v := ?_) (a' := ?_) #[true, true, true, true, true, true, true, true, true, true, true, true, true, true, true, true, false] rfl rfl (any_of HT_.out (by kernel_rfl)) (fun _ _ _ h => h) (Or.inl ⟨by rfl, ?_⟩) ?_ ?_
         rotate_left
         ·intro w'
          go_simp
          with_reducible rfl
         rotate_left
         ·simp only [Act.put, List.setIfInBounds_toArray, List.set_cons_zero, List.set_cons_succ, i64_w, i32_w]
          rfl
         refine pure_ (i := 16) (N := some 3) (v := ?_) (a' := ?_) #[true, true, true, true, true, true, true, true, true, true, true, true, true, true, true, true, true] rfl rfl (any_of HT_.out (by kernel_rfl)) (fun _ _ _ h => h) (Or.inl ⟨by rfl, ?_⟩) ?_ ?_
         rotate_left
         ·intro w'
          go_simp
          with_reducible rfl
         rotate_left
         ·simp only [Act.put, List.setIfInBounds_toArray, List.set_cons_zero, List.set_cons_succ, i64_w, i32_w]
          rfl
         refine done_ (done_of HT_.out (by kernel_rfl)) ?_
         try go_wp2
         go_roundg k1
         case measure => have := HK1.out; omega
         case rel => exact ⟨(((x3_1 ++ t140) ++ (⟨#[44]⟩ : ByteArray)) ++ t142), (wrap64 (x4_1 + 1)), (by first | rfl | (simp; done) | (simp [*]; done)), (by first | rfl | (simp; done) | (simp [*]; done)), H', ⟨by have := HK1.out; omega⟩, ⟨by repeat (first | (with_reducible first | exact HB.out | apply below_alloc | apply pw_below_drewN | apply below_drew1) | exact HB.out)⟩⟩
        ·rw [if_neg c19] at H
         exact absurd H (by simp)
       ·rw [if_neg c17] at H
        exact absurd H (by simp)
      ·rw [if_neg c16] at H
       exact absurd H (by simp)
     ·rw [if_neg c14] at H
      exact absurd H (by simp)
   ·rw [if_neg c2] at H
    have c2b0 : decide (x4_1 < (l0.length : Int)) = false := decide_eq_false c2
    clear c2
    obtain rfl := Option.some.inj H
    go_wp2
    go_ret
    exact ⟨by first | rfl | (simp [errW_none, errW_some] <;> rfl) | (simp [*, errW_none, errW_some] <;> rfl), by repeat (first | (with_reducible first | exact HB.out | apply below_alloc | apply pw_below_drewN | apply below_drew1) | exact HB.out)⟩

/-! ### mudlarklaw09_Text: function 22 -/
def mudlarklaw09_Text.f (k : Nat) (l0 : List Int) : Option (ByteArray) := (mudlarklaw09_Parts.f k l0).bind fun bt143 => ((mudlarkref09_Print.f k bt143.1).bind fun t148 => (if (l0.length : Int) > 0 then (if 0 < (l0.length : Int) then (if (rd l0 0) > 150 then (if (wrap64 ((t148.size : Int) + 1)) = 0 then (none) else (if 0 ≤ (Int.tmod (wrap64 (rd l0 0)) (wrap64 ((t148.size : Int) + 1))) then (if (Int.tmod (wrap64 (rd l0 0)) (wrap64 ((t148.size : Int) + 1))) ≤ (t148.size : Int) then ((some (([(⟨#[44]⟩ : ByteArray), (⟨#[45]⟩ : ByteArray), (⟨#[48]⟩ : ByteArray), (⟨#[120]⟩ : ByteArray), (⟨#[57, 57, 57, 57, 57, 57, 57, 57, 57, 57, 57, 57, 57, 57]⟩ : ByteArray)] : List ByteArray) : List ByteArray)).bind fun y151 => (if 0 ≤ (Int.tmod (rd l0 0) 5) then (if (Int.tmod (rd l0 0) 5) < (y151.length : Int) then (if (t148.extract 0 ((Int.tmod (wrap64 (rd l0 0)) (wrap64 ((t148.size : Int) + 1))) : Int).toNat).size + (rdOf ByteArray.empty y151 (Int.tmod (rd l0 0) 5)).size ≤ 9223372036854775807 then (if ((t148.extract 0 ((Int.tmod (wrap64 (rd l0 0)) (wrap64 ((t148.size : Int) + 1))) : Int).toNat) ++ (rdOf ByteArray.empty y151 (Int.tmod (rd l0 0) 5))).size + (t148.extract ((Int.tmod (wrap64 (rd l0 0)) (wrap64 ((t148.size : Int) + 1))) : Int).toNat t148.size).size ≤ 9223372036854775807 then (some (((t148.extract 0 ((Int.tmod (wrap64 (rd l0 0)) (wrap64 ((t148.size : Int) + 1))) : Int).toNat) ++ (rdOf ByteArray.empty y151 (Int.tmod (rd l0 0) 5))) ++ (t148.extract ((Int.tmod (wrap64 (rd l0 0)) (wrap64 ((t148.size : Int) + 1))) : Int).toNat t148.size))) else (none)) else (none)) else (none)) else (none))) else (none)) else (none))) else (some t148)) else (none)) else (some t148)))
theorem mudlarklaw09_Text.mono : ∀ a0 k, LeO (mudlarklaw09_Text.f k a0) (mudlarklaw09_Text.f (k + 1) a0) := by
 intro a0 k
 unfold mudlarklaw09_Text.f
 repeat' first
   | (with_reducible exact mudlarklaw09_Parts.mono _ _)
   | (with_reducible exact mudlarkref09_Print.mono _ _)
   | (with_reducible exact LeO.refl _)
   | (with_reducible exact LeO.none _)
   | (with_reducible refine LeO.ite ?_ ?_)
   | (with_reducible refine LeO.bind ?_ (fun _ => ?_))
   | exact mudlarklaw09_Parts.mono _ _
   | exact mudlarkref09_Print.mono _ _
   | exact LeO.none _
   | refine LeO.ite ?_ ?_
   | refine LeO.bind ?_ (fun _ => ?_)
def mudlarklaw09_Text.T5 : Bool × List (List Nat × List Nat) := (true, [([], []), ([], []), ([0, 1], [0, 1]), ([], []), ([], []), ([4], [4]), ([5], [5]), ([6], [6]), ([3, 7], [3, 7]), ([8], [8]), ([2, 9], [2, 9]), ([], []), ([], []), ([11, 12], [11, 12]), ([10, 13], [10, 13]), ([14, 0, 1, 2, 3, 4, 5, 6, 7, 8, 9, 10, 11, 12, 13, 14], [0, 11, 14])])
def mudlarklaw09_Text.B5 : List Nat := [0, 0, 3, 0, 0, 16, 48, 112, 248, 504, 1023, 0, 0, 6144, 16383, 32767]
theorem mudlarklaw09_Text.tab5 : rtab .any (opsOf Tryd.f22 5) = mudlarklaw09_Text.T5 := by kernel_rfl
theorem mudlarklaw09_Text.bits5 : waitsOk mudlarklaw09_Text.T5.2 mudlarklaw09_Text.B5 = true := by kernel_rfl
set_option maxHeartbeats 8000000 in
set_option maxRecDepth 100000 in
theorem mudlarklaw09_Text.calls (k : Nat) (A0 : Option Addr) (c0 : Nat) (l0 : List Int) (r : ByteArray) (w : World) (hr0 : Kd.C (Kd.int .u8) w A0 l0.length l0) (hc0 : l0.length ≤ c0) (h : mudlarklaw09_Text.f k l0 = some r) (HT_ : Tabs w) :
  Calls Tryd.prog 22 #[.slice A0 l0.length c0] w fun e w' => e = .returned (.string r) ∧ Below w.heap.size w w' := by
 have HT := Aside0.mk HT_
 clear HT_
 have HR0 := Aside0.mk hr0
 have HC0 := Aside0.mk hc0
 clear hr0 hc0
 have HB := Aside0.mk (Below.refl w.heap.size w)
 have H : ((mudlarklaw09_Parts.f k l0).bind fun bt143 => ((mudlarkref09_Print.f k bt143.1).bind fun t148 => (if (l0.length : Int) > 0 then (if 0 < (l0.length : Int) then (if (rd l0 0) > 150 then (if (wrap64 ((t148.size : Int) + 1)) = 0 then (none) else (if 0 ≤ (Int.tmod (wrap64 (rd l0 0)) (wrap64 ((t148.size : Int) + 1))) then (if (Int.tmod (wrap64 (rd l0 0)) (wrap64 ((t148.size : Int) + 1))) ≤ (t148.size : Int) then ((some (([(⟨#[44]⟩ : ByteArray), (⟨#[45]⟩ : ByteArray), (⟨#[48]⟩ : ByteArray), (⟨#[120]⟩ : ByteArray), (⟨#[57, 57, 57, 57, 57, 57, 57, 57, 57, 57, 57, 57, 57, 57]⟩ : ByteArray)] : List ByteArray) : List ByteArray)).bind fun y151 => (if 0 ≤ (Int.tmod (rd l0 0) 5) then (if (Int.tmod (rd l0 0) 5) < (y151.length : Int) then (if (t148.extract 0 ((Int.tmod (wrap64 (rd l0 0)) (wrap64 ((t148.size : Int) + 1))) : Int).toNat).size + (rdOf ByteArray.empty y151 (Int.tmod (rd l0 0) 5)).size ≤ 9223372036854775807 then (if ((t148.extract 0 ((Int.tmod (wrap64 (rd l0 0)) (wrap64 ((t148.size : Int) + 1))) : Int).toNat) ++ (rdOf ByteArray.empty y151 (Int.tmod (rd l0 0) 5))).size + (t148.extract ((Int.tmod (wrap64 (rd l0 0)) (wrap64 ((t148.size : Int) + 1))) : Int).toNat t148.size).size ≤ 9223372036854775807 then (some (((t148.extract 0 ((Int.tmod (wrap64 (rd l0 0)) (wrap64 ((t148.size : Int) + 1))) : Int).toNat) ++ (rdOf ByteArray.empty y151 (Int.tmod (rd l0 0) 5))) ++ (t148.extract ((Int.tmod (wrap64 (rd l0 0)) (wrap64 ((t148.size : Int) + 1))) : Int).toNat t148.size))) else (none)) else (none)) else (none)) else (none))) else (none)) else (none))) else (some t148)) else (none)) else (some t148)))) = some r := h
 clear h
 replace H := Option.bind_eq_some_iff.mp H
 obtain ⟨⟨t143, t144, t145⟩, A20, H⟩ := H
 replace H : ((mudlarkref09_Print.f k t143).bind fun t148 => (if (l0.length : Int) > 0 then (if 0 < (l0.length : Int) then (if (rd l0 0) > 150 then (if (wrap64 ((t148.size : Int) + 1)) = 0 then (none) else (if 0 ≤ (Int.tmod (wrap64 (rd l0 0)) (wrap64 ((t148.size : Int) + 1))) then (if (Int.tmod (wrap64 (rd l0 0)) (wrap64 ((t148.size : Int) + 1))) ≤ (t148.size : Int) then ((some (([(⟨#[44]⟩ : ByteArray), (⟨#[45]⟩ : ByteArray), (⟨#[48]⟩ : ByteArray), (⟨#[120]⟩ : ByteArray), (⟨#[57, 57, 57, 57, 57, 57, 57, 57, 57, 57, 57, 57, 57, 57]⟩ : ByteArray)] : List ByteArray) : List ByteArray)).bind fun y151 => (if 0 ≤ (Int.tmod (rd l0 0) 5) then (if (Int.tmod (rd l0 0) 5) < (y151.length : Int) then (if (t148.extract 0 ((Int.tmod (wrap64 (rd l0 0)) (wrap64 ((t148.size : Int) + 1))) : Int).toNat).size + (rdOf ByteArray.empty y151 (Int.tmod (rd l0 0) 5)).size ≤ 9223372036854775807 then (if ((t148.extract 0 ((Int.tmod (wrap64 (rd l0 0)) (wrap64 ((t148.size : Int) + 1))) : Int).toNat) ++ (rdOf ByteArray.empty y151 (Int.tmod (rd l0 0) 5))).size + (t148.extract ((Int.tmod (wrap64 (rd l0 0)) (wrap64 ((t148.size : Int) + 1))) : Int).toNat t148.size).size ≤ 9223372036854775807 then (some (((t148.extract 0 ((Int.tmod (wrap64 (rd l0 0)) (wrap64 ((t148.size : Int) + 1))) : Int).toNat) ++ (rdOf ByteArray.empty y151 (Int.tmod (rd l0 0) 5))) ++ (t148.extract ((Int.tmod (wrap64 (rd l0 0)) (wrap64 ((t148.size : Int) + 1))) : Int).toNat t148.size))) else (none)) else (none)) else (none)) else (none))) else (none)) else (none))) else (some t148)) else (none)) else (some t148))) = some r := H
 have A2 := Aside0.mk A20
 clear A20
 replace H := Option.bind_eq_some_iff.mp H
 obtain ⟨t148, A30, H⟩ := H
 replace H : (if (l0.length : Int) > 0 then (if 0 < (l0.length : Int) then (if (rd l0 0) > 150 then (if (wrap64 ((t148.size : Int) + 1)) = 0 then (none) else (if 0 ≤ (Int.tmod (wrap64 (rd l0 0)) (wrap64 ((t148.size : Int) + 1))) then (if (Int.tmod (wrap64 (rd l0 0)) (wrap64 ((t148.size : Int) + 1))) ≤ (t148.size : Int) then ((some (([(⟨#[44]⟩ : ByteArray), (⟨#[45]⟩ : ByteArray), (⟨#[48]⟩ : ByteArray), (⟨#[120]⟩ : ByteArray), (⟨#[57, 57, 57, 57, 57, 57, 57, 57, 57, 57, 57, 57, 57, 57]⟩ : ByteArray)] : List ByteArray) : List ByteArray)).bind fun y151 => (if 0 ≤ (Int.tmod (rd l0 0) 5) then (if (Int.tmod (rd l0 0) 5) < (y151.length : Int) then (if (t148.extract 0 ((Int.tmod (wrap64 (rd l0 0)) (wrap64 ((t148.size : Int) + 1))) : Int).toNat).size + (rdOf ByteArray.empty y151 (Int.tmod (rd l0 0) 5)).size ≤ 9223372036854775807 then (if ((t148.extract 0 ((Int.tmod (wrap64 (rd l0 0)) (wrap64 ((t148.size : Int) + 1))) : Int).toNat) ++ (rdOf ByteArray.empty y151 (Int.tmod (rd l0 0) 5))).size + (t148.extract ((Int.tmod (wrap64 (rd l0 0)) (wrap64 ((t148.size : Int) + 1))) : Int).toNat t148.size).size ≤ 9223372036854775807 then (some (((t148.extract 0 ((Int.tmod (wrap64 (rd l0 0)) (wrap64 ((t148.size : Int) + 1))) : Int).toNat) ++ (rdOf ByteArray.empty y151 (Int.tmod (rd l0 0) 5))) ++ (t148.extract ((Int.tmod (wrap64 (rd l0 0)) (wrap64 ((t148.size : Int) + 1))) : Int).toNat t148.size))) else (none)) else (none)) else (none)) else (none))) else (none)) else (none))) else (some t148)) else (none)) else (some t148)) = some r := H
 have A3 := Aside0.mk A30
 clear A30
 by_cases c4 : (l0.length : Int) > 0
 ·rw [if_pos c4] at H
  have c4b0 : decide (0 < (l0.length : Int)) = true := decide_eq_true c4
  have c4b1 : decide (0 < l0.length) = true := decide_eq_true (by ((try clear hji11); (try clear hji8); omega))
  clear c4
  by_cases c5 : 0 < (l0.length : Int)
  ·rw [if_pos c5] at H
   have c5b0 : decide (0 < (l0.length : Int)) = true := decide_eq_true c5
   have c5b1 : decide (0 < l0.length) = true := decide_eq_true (by ((try clear hji11); (try clear hji8); omega))
   clear c5
   by_cases c6 : (rd l0 0) > 150
   ·rw [if_pos c6] at H
    have c6b0 : decide (150 < (rd l0 0)) = true := decide_eq_true c6
    clear c6
    by_cases c7 : (wrap64 ((t148.size : Int) + 1)) = 0
    ·rw [if_pos c7] at H
     exact absurd H (by simp)
    ·rw [if_neg c7] at H
     have c7b0 : ((wrap64 ((t148.size : Int) + 1)) == 0) = false := beq_eq_false_iff_ne.mpr c7
     have c7b1 : ((wrap64 ((t148.size : Int) + 1)) != 0) = true := bne_iff_ne.mpr c7
     obtain ⟨ji8, hji8⟩ : ∃ j_ : Int, (Int.tmod (wrap64 (rd l0 0)) (wrap64 ((t148.size : Int) + 1))) = j_ := ⟨_, rfl⟩
     replace H : (if 0 ≤ (ji8) then (if (ji8) ≤ (t148.size : Int) then ((some (([(⟨#[44]⟩ : ByteArray), (⟨#[45]⟩ : ByteArray), (⟨#[48]⟩ : ByteArray), (⟨#[120]⟩ : ByteArray), (⟨#[57, 57, 57, 57, 57, 57, 57, 57, 57, 57, 57, 57, 57, 57]⟩ : ByteArray)] : List ByteArray) : List ByteArray)).bind fun y151 => (if 0 ≤ (Int.tmod (rd l0 0) 5) then (if (Int.tmod (rd l0 0) 5) < (y151.length : Int) then (if (t148.extract 0 ((ji8) : Int).toNat).size + (rdOf ByteArray.empty y151 (Int.tmod (rd l0 0) 5)).size ≤ 9223372036854775807 then (if ((t148.extract 0 ((ji8) : Int).toNat) ++ (rdOf ByteArray.empty y151 (Int.tmod (rd l0 0) 5))).size + (t148.extract ((ji8) : Int).toNat t148.size).size ≤ 9223372036854775807 then (some (((t148.extract 0 ((ji8) : Int).toNat) ++ (rdOf ByteArray.empty y151 (Int.tmod (rd l0 0) 5))) ++ (t148.extract ((ji8) : Int).toNat t148.size))) else (none)) else (none)) else (none)) else (none))) else (none)) else (none)) = some r := by first | (rw [hji8] at H; exact H) | (simp only [hji8] at H ⊢; exact H)
     (try rw [hji8] at A2)
     (try rw [hji8] at A3)
     by_cases c9 : 0 ≤ (ji8)
     ·rw [if_pos c9] at H
      have c9b0 := eq_true c9
      have c9b1 : decide (0 ≤ (ji8)) = true := decide_eq_true c9
      clear c9
      by_cases c10 : (ji8) ≤ (t148.size : Int)
      ·rw [if_pos c10] at H
       have c10b0 := eq_true c10
       have c10b1 : decide ((ji8) ≤ (t148.size : Int)) = true := decide_eq_true c10
       clear c10
       obtain ⟨y151, hy151⟩ : ∃ y_ : List ByteArray, y_ = (([(⟨#[44]⟩ : ByteArray), (⟨#[45]⟩ : ByteArray), (⟨#[48]⟩ : ByteArray), (⟨#[120]⟩ : ByteArray), (⟨#[57, 57, 57, 57, 57, 57, 57, 57, 57, 57, 57, 57, 57, 57]⟩ : ByteArray)] : List ByteArray)) := ⟨_, rfl⟩
       replace H : (if 0 ≤ (Int.tmod (rd l0 0) 5) then (if (Int.tmod (rd l0 0) 5) < (y151.length : Int) then (if (t148.extract 0 ((ji8) : Int).toNat).size + (rdOf ByteArray.empty y151 (Int.tmod (rd l0 0) 5)).size ≤ 9223372036854775807 then (if ((t148.extract 0 ((ji8) : Int).toNat) ++ (rdOf ByteArray.empty y151 (Int.tmod (rd l0 0) 5))).size + (t148.extract ((ji8) : Int).toNat t148.size).size ≤ 9223372036854775807 then (some (((t148.extract 0 ((ji8) : Int).toNat) ++ (rdOf ByteArray.empty y151 (Int.tmod (rd l0 0) 5))) ++ (t148.extract ((ji8) : Int).toNat t148.size))) else (none)) else (none)) else (none)) else (none)) = some r := by first | (rw [hy151]; with_reducible exact H) | (have H2_ := (Option.bind_some _ _).symm.trans H; rw [hy151]; with_reducible exact H2_) | (have H2_ := (Option.bind_some _ _).symm.trans H; with_reducible exact H2_) | with_reducible exact H | (rw [hy151]; exact H) | exact H
       have Ny151 := Aside0.mk hy151
       clear hy151
       obtain ⟨ji11, hji11⟩ : ∃ j_ : Int, (Int.tmod (rd l0 0) 5) = j_ := ⟨_, rfl⟩
       replace H : (if 0 ≤ (ji11) then (if (ji11) < (y151.length : Int) then (if (t148.extract 0 ((ji8) : Int).toNat).size + (rdOf ByteArray.empty y151 (ji11)).size ≤ 9223372036854775807 then (if ((t148.extract 0 ((ji8) : Int).toNat) ++ (rdOf ByteArray.empty y151 (ji11))).size + (t148.extract ((ji8) : Int).toNat t148.size).size ≤ 9223372036854775807 then (some (((t148.extract 0 ((ji8) : Int).toNat) ++ (rdOf ByteArray.empty y151 (ji11))) ++ (t148.extract ((ji8) : Int).toNat t148.size))) else (none)) else (none)) else (none)) else (none)) = some r := by first | (rw [hji11] at H; exact H) | (simp only [hji11] at H ⊢; exact H)
       (try rw [hji11] at A2)
       (try rw [hji11] at A3)
       by_cases c12 : 0 ≤ (ji11)
       ·rw [if_pos c12] at H
        have c12b0 : decide (0 ≤ (ji11)) = true := decide_eq_true c12
        clear c12
        by_cases c13 : (ji11) < (y151.length : Int)
        ·rw [if_pos c13] at H
         have c13b0 : decide ((ji11) < (y151.length : Int)) = true := decide_eq_true c13
         clear c13
         by_cases c14 : (t148.extract 0 ((ji8) : Int).toNat).size + (rdOf ByteArray.empty y151 (ji11)).size ≤ 9223372036854775807
         ·rw [if_pos c14] at H
          have c14b0 := eq_true c14
          have c14b1 : decide ((t148.extract 0 ((ji8) : Int).toNat).size + (rdOf ByteArray.empty y151 (ji11)).size ≤ 9223372036854775807) = true := decide_eq_true c14
          try have c14b2 : (9223372036854775807 < (t148.extract 0 ((ji8) : Int).toNat).size + (rdOf ByteArray.empty y151 (ji11)).size) = False := eq_false (Nat.not_lt.2 c14)
          (try have c14n : (9223372036854775807 < min (((ji8) : Int).toNat) t148.size + (rdOf ByteArray.empty y151 (ji11)).size) = False := eq_false (by have h_ := c14; simp only [ByteArray.size_append, ByteArray.size_extract] at h_; ((try clear hji11); (try clear hji8); omega)))
          (try have c14m : (9223372036854775807 < ((ji8) : Int).toNat + (rdOf ByteArray.empty y151 (ji11)).size) = False := eq_false (by have h_ := c14; simp only [ByteArray.size_append, ByteArray.size_extract] at h_; have b_ : ji8 ≤ (t148.size : Int) := of_decide_eq_true (by first | (with_reducible assumption) | assumption); have b0_ : (0 : Int) ≤ ji8 := of_decide_eq_true (by first | (with_reducible assumption) | assumption); ((try clear hji11); (try clear hji8); omega)))
          have c15b0 := eq_true (of_decide_eq_true (by first | (with_reducible assumption) | assumption) : 0 ≤ (ji8))
          have c16b0 := eq_true (of_decide_eq_true (by first | (with_reducible assumption) | assumption) : (ji8) ≤ (t148.size : Int))
          by_cases c17 : ((t148.extract 0 ((ji8) : Int).toNat) ++ (rdOf ByteArray.empty y151 (ji11))).size + (t148.extract ((ji8) : Int).toNat t148.size).size ≤ 9223372036854775807
          ·rw [if_pos c17] at H
           have c17b0 := eq_true c17
           have c17b1 : decide (((t148.extract 0 ((ji8) : Int).toNat) ++ (rdOf ByteArray.empty y151 (ji11))).size + (t148.extract ((ji8) : Int).toNat t148.size).size ≤ 9223372036854775807) = true := decide_eq_true c17
           try have c17b2 : (9223372036854775807 < ((t148.extract 0 ((ji8) : Int).toNat) ++ (rdOf ByteArray.empty y151 (ji11))).size + (t148.extract ((ji8) : Int).toNat t148.size).size) = False := eq_false (Nat.not_lt.2 c17)
           (try have c17n : (9223372036854775807 < min (((ji8) : Int).toNat) t148.size + (rdOf ByteArray.empty y151 (ji11)).size + (t148.size - (((ji8) : Int).toNat))) = False := eq_false (by have h_ := c17; simp only [ByteArray.size_append, ByteArray.size_extract] at h_; ((try clear hji11); (try clear hji8); omega)))
           (try have c17m : (9223372036854775807 < ((ji8) : Int).toNat + (rdOf ByteArray.empty y151 (ji11)).size + (t148.size - (((ji8) : Int).toNat))) = False := eq_false (by have h_ := c17; simp only [ByteArray.size_append, ByteArray.size_extract] at h_; have b_ : ji8 ≤ (t148.size : Int) := of_decide_eq_true (by first | (with_reducible assumption) | assumption); have b0_ : (0 : Int) ≤ ji8 := of_decide_eq_true (by first | (with_reducible assumption) | assumption); ((try clear hji11); (try clear hji8); omega)))
           obtain rfl := Option.some.inj H
           go_enter Tryd.func22, Tryd.ntmps22
           try go_wp2_with (first | ((with_reducible refine gate_callee (f := 9) rfl ?_); refine goesL_ (some 10) rfl rfl Tryd.func9 (by kernel_rfl) rfl #[.slice A0 l0.length c0] rfl (by (try simp only [List.map_toArray, List.map_cons, List.map_nil]); first | done | rfl | (simp only [List.length_drop, List.length_take]; rfl)) ?_; (with_reducible refine (mudlarklaw09_Parts.calls k _ _ l0 t143 t144 t145 _ ?side1 ?side2 A2.out).mono ?_); (case side1 => repeat (first | exact HR0.out | (with_reducible refine Kd.C_alloc ?_ _) | (with_reducible refine Kd.C_drewN ?_ _) | (with_reducible refine Kd.C_drew ?_))); (case side2 => exact HC0.out); rintro e w18 ⟨v146, rfl, ho0, hb⟩; refine ⟨_, rfl, ?_⟩; have n0_ := Aside0.mk (Kd.R_lower ho0 (below_size (by repeat (first | (with_reducible first | exact HB.out | apply below_alloc | apply pw_below_drewN | apply below_drew1) | exact HB.out)))); have n1_ := Aside0.mk (below_step (by repeat (first | (with_reducible first | exact HB.out | apply below_alloc | apply pw_below_drewN | apply below_drew1) | exact HB.out)) hb); clear HB; have HO147 := n0_; have HB := n1_; clear n0_ n1_; (try clear hb); (try clear hb2); (try clear hk); (try clear hi); (try clear ho0); obtain ⟨Ao19, co19, eo19⟩ := Kd.R_slice HO147.out; subst eo19) | ((with_reducible refine gate_callee (f := 31) rfl ?_); refine goesL_ (some 15) rfl rfl Tryd.func31 (by kernel_rfl) rfl #[.slice Ao19 t143.length co19] rfl (by (try simp only [List.map_toArray, List.map_cons, List.map_nil]); first | done | rfl | (simp only [List.length_drop, List.length_take]; rfl)) ?_; (with_reducible refine (mudlarkref09_Print.calls k _ _ t143 t148 _ ?side1 ?side2 A3.out (HT.out.below (by repeat (first | (with_reducible first | exact HB.out | apply below_alloc | apply pw_below_drewN | apply below_drew1) | exact HB.out)))).mono ?_); (case side1 => repeat (first | exact (Kd.R_reads' HO147.out).2.2 | (with_reducible refine Kd.C_alloc ?_ _) | (with_reducible refine Kd.C_drewN ?_ _) | (with_reducible refine Kd.C_drew ?_))); (case side2 => exact (Kd.R_reads' HO147.out).2.1); rintro e w20 ⟨rfl, hb⟩; refine ⟨_, rfl, ?_⟩; have n0_ := Aside0.mk (Kd.R_below (by (with_reducible repeat (first | apply Kd.R_alloc | apply Kd.R_drewN | apply Kd.R_drew)); exact HO147.out) hb); have n1_ := Aside0.mk (below_step (by repeat (first | (with_reducible first | exact HB.out | apply below_alloc | apply pw_below_drewN | apply below_drew1) | exact HB.out)) hb); clear HO147; clear HB; have HO147 := n0_; have HB := n1_; clear n0_ n1_; (try clear hb); (try clear hb2); (try clear hk); (try clear hi); have p149 : 0 ≤ (0 : Int) := (by ((try clear hji11); (try clear hji8); omega)); have q149 : 0 < (l0.length : Int) := of_decide_eq_true (by first | (with_reducible assumption) | assumption); obtain ⟨ad149, e149, hx149_0⟩ := Kd.at_int HR0.out 0 p149 q149; cases e149; have qi149 : (0 < l0.length) = True := eq_true (by ((try clear hji11); (try clear hji8); omega)); (try rw [show ((0 : Int)).toNat = 0 from rfl] at hx149_0); (try rw [Addr.add_zero'] at hx149_0); replace hx149_0 := (HB.out.cell (World.block_lt_of_cell? w _ hx149_0)).trans hx149_0; replace p149 := eq_true p149; replace q149 := eq_true q149; have p150 : 0 ≤ (0 : Int) := (by ((try clear hji11); (try clear hji8); omega)); have q150 : 0 < (l0.length : Int) := of_decide_eq_true (by first | (with_reducible assumption) | assumption); obtain ⟨ad150, e150, hx150_0⟩ := Kd.at_int HR0.out 0 p150 q150; obtain rfl : ad149 = ad150 := (by injection e150); have qi150 : (0 < l0.length) = True := eq_true (by ((try clear hji11); (try clear hji8); omega)); (try rw [show ((0 : Int)).toNat = 0 from rfl] at hx150_0); (try rw [Addr.add_zero'] at hx150_0); replace hx150_0 := (HB.out.cell (World.block_lt_of_cell? w _ hx150_0)).trans hx150_0; replace p150 := eq_true p150; replace q150 := eq_true q150))
           have pi155 : (0 ≤ ((ji11) : Int)) = True := eq_true (of_decide_eq_true (by first | (with_reducible assumption) | assumption))
           have qi155 : ((ji11) < (y151.length : Int)) = True := eq_true (of_decide_eq_true (by first | (with_reducible assumption) | assumption))
           have n0_ := Aside0.mk (Kd.R_drew HO147.out)
           have n1_ := Aside0.mk (below_drew1 HB.out)
           clear HO147
           clear HB
           have HO147 := n0_
           have HB := n1_
           clear n0_ n1_
           have p154 : 0 ≤ (0 : Int) := (by ((try clear hji11); (try clear hji8); omega))
           have q154 : 0 < (l0.length : Int) := of_decide_eq_true (by first | (with_reducible assumption) | assumption)
           obtain ⟨ad154, e154, hx154_0⟩ := Kd.at_int HR0.out 0 p154 q154
           have hw154_0 := hx154_0
           (try rw [show ((0 : Int)).toNat = 0 from rfl] at hw154_0)
           (try rw [show 0 * 1 = 0 from rfl] at hw154_0)
           (try rw [Addr.add_zero'] at hw154_0)
           obtain rfl : ad149 = ad154 := (by injection e154)
           have qi154 : (0 < l0.length) = True := eq_true (by ((try clear hji11); (try clear hji8); omega))
           (try rw [show ((0 : Int)).toNat = 0 from rfl] at hx154_0)
           (try rw [Addr.add_zero'] at hx154_0)
           replace hx154_0 := (HB.out.cell (World.block_lt_of_cell? w _ hx154_0)).trans hx154_0
           replace p154 := eq_true p154
           replace q154 := eq_true q154
           refine start_ (n := 16) (S := fun w' => w'.cell? ad149 = some (.int .u8 (rd l0 0))) (ds := []) #[false, false, false, false, false, false, false, false, false, false, false, false, false, false, false, false] (by kernel_rfl) rfl rfl (((HB.out.cell (World.block_lt_of_cell? w _ hw154_0)).trans hw154_0)) (fun hHeld => ?_); refine with_tabW mudlarklaw09_Text.tab5 mudlarklaw09_Text.bits5 (fun HT_ HW_ => ?_)
           generalize w20.drew = w21 at HO147 HB hx154_0 hHeld ⊢
           refine pure_ (i := 0) (N := some 33) (v := ?_) (a' := ?_) #[true, false, false, false, false, false, false, false, false, false, false, false, false, false, false, false] rfl rfl (any_of HT_.out (by kernel_rfl)) (fun _ _ _ h => h) (Or.inl ⟨by rfl, ?_⟩) ?_ ?_
           rotate_left
           ·intro w'
            go_simp
            with_reducible rfl
           rotate_left
           ·simp only [Act.put, List.setIfInBounds_toArray, List.set_cons_zero, List.set_cons_succ, i64_w, i32_w]
            rfl
           refine pure_ (i := 1) (N := some 34) (v := ?_) (a' := ?_) #[true, true, false, false, false, false, false, false, false, false, false, false, false, false, false, false] rfl rfl (any_of HT_.out (by kernel_rfl)) (fun _ _ _ h => h) (Or.inl ⟨by rfl, ?_⟩) ?_ ?_
           rotate_left
           ·intro w'
            go_simp
            with_reducible rfl
           rotate_left
           ·simp only [Act.put, List.setIfInBounds_toArray, List.set_cons_zero, List.set_cons_succ, i64_w, i32_w]
            rfl
           refine pure_ (i := 2) (N := some 35) (v := ?_) (a' := ?_) #[true, true, true, false, false, false, false, false, false, false, false, false, false, false, false, false] rfl rfl (any_of HT_.out (by kernel_rfl)) (fun _ _ _ h => h) (Or.inl ⟨by rfl, ?_⟩) ?_ ?_
           rotate_left
           ·intro w'
            go_simp
            with_reducible rfl
           rotate_left
           ·simp only [Act.put, List.setIfInBounds_toArray, List.set_cons_zero, List.set_cons_succ, i64_w, i32_w]
            rfl
           refine pure_ (i := 4) (N := some 37) (v := ?_) (a' := ?_) #[true, true, true, false, true, false, false, false, false, false, false, false, false, false, false, false] rfl rfl (any_of HT_.out (by kernel_rfl)) (fun _ _ _ h => h) (Or.inl ⟨by rfl, ?_⟩) ?_ ?_
           rotate_left
           ·intro w'
            go_simp
            with_reducible rfl
           rotate_left
           ·simp only [Act.put, List.setIfInBounds_toArray, List.set_cons_zero, List.set_cons_succ, i64_w, i32_w]
            rfl
           refine pure_ (i := 5) (N := some 38) (v := ?_) (a' := ?_) #[true, true, true, false, true, true, false, false, false, false, false, false, false, false, false, false] rfl rfl (any_of HT_.out (by kernel_rfl)) (fun _ _ _ h => h) (Or.inl ⟨by rfl, ?_⟩) ?_ ?_
           rotate_left
           ·intro w'
            go_simp
            with_reducible rfl
           rotate_left
           ·simp only [Act.put, List.setIfInBounds_toArray, List.set_cons_zero, List.set_cons_succ, i64_w, i32_w]
            rfl
           refine pure_ (i := 11) (N := some 44) (v := ?_) (a' := ?_) #[true, true, true, false, true, true, false, false, false, false, false, true, false, false, false, false] rfl rfl (any_of HT_.out (by kernel_rfl)) (fun _ _ _ h => h) (Or.inl ⟨by rfl, ?_⟩) ?_ ?_
           rotate_left
           ·intro w'
            go_simp
            with_reducible rfl
           rotate_left
           ·simp only [Act.put, List.setIfInBounds_toArray, List.set_cons_zero, List.set_cons_succ, i64_w, i32_w]
            rfl
           refine pure_ (i := 12) (N := some 45) (v := ?_) (a' := ?_) #[true, true, true, false, true, true, false, false, false, false, false, true, true, false, false, false] rfl rfl (any_of HT_.out (by kernel_rfl)) (fun _ _ _ h => h) (Or.inl ⟨by rfl, ?_⟩) ?_ ?_
           rotate_left
           ·intro w'
            go_simp
            with_reducible rfl
           rotate_left
           ·simp only [Act.put, List.setIfInBounds_toArray, List.set_cons_zero, List.set_cons_succ, i64_w, i32_w]
            rfl
           refine pure_ (i := 13) (N := some 46) (v := ?_) (a' := ?_) #[true, true, true, false, true, true, false, false, false, false, false, true, true, true, false, false] rfl rfl (any_of HT_.out (by kernel_rfl)) (fun _ _ _ h => h) (Or.inl ⟨by rfl, ?_⟩) ?_ ?_
           rotate_left
           ·intro w'
            go_simp
            with_reducible rfl
           rotate_left
           ·simp only [Act.put, List.setIfInBounds_toArray, List.set_cons_zero, List.set_cons_succ, i64_w, i32_w]
            rfl
           refine take_ (i := 6) (N := some 39) (v := ?_) (a' := ?_) #[true, true, true, false, true, true, true, false, false, false, false, true, true, true, false, false] rfl rfl (take_ofW HT_.out HW_.out (by kernel_rfl)) (fun _ _ _ h => h) (Or.inl ⟨by rfl, ?_⟩) hHeld ?_ ?_
           rotate_left
           ·intro w' s0
            go_simp
            with_reducible rfl
           rotate_left
           ·simp only [Act.put, List.setIfInBounds_toArray, List.set_cons_zero, List.set_cons_succ, i64_w, i32_w]
            rfl
           refine pure_ (i := 7) (N := some 40) (v := ?_) (a' := ?_) #[true, true, true, false, true, true, true, true, false, false, false, true, true, true, false, false] rfl rfl (any_of HT_.out (by kernel_rfl)) (fun _ _ _ h => h) (Or.inl ⟨by rfl, ?_⟩) ?_ ?_
           rotate_left
           ·intro w'
            go_simp
            with_reducible rfl
           rotate_left
           ·simp only [Act.put, List.setIfInBounds_toArray, List.set_cons_zero, List.set_cons_succ, i64_w, i32_w]
            rfl
           refine one_ (i := 3) (N := some 36) #[true, true, true, true, true, true, true, true, false, false, false, true, true, true, false, false] rfl rfl (one_of HT_.out (by kernel_rfl)) (by decide) (fun K hK => ?_)
           refine Kd.R_lit_step Kd.string _ 9 ?hg (N := 36) ?hd (xs := ([(⟨#[44]⟩ : ByteArray), (⟨#[45]⟩ : ByteArray), (⟨#[48]⟩ : ByteArray), (⟨#[120]⟩ : ByteArray), (⟨#[57, 57, 57, 57, 57, 57, 57, 57, 57, 57, 57, 57, 57, 57]⟩ : ByteArray)] : List ByteArray)) (inner := [.string (⟨#[44]⟩ : ByteArray), .string (⟨#[45]⟩ : ByteArray), .string (⟨#[48]⟩ : ByteArray), .string (⟨#[120]⟩ : ByteArray), .string (⟨#[57, 57, 57, 57, 57, 57, 57, 57, 57, 57, 57, 57, 57, 57]⟩ : ByteArray)]) (ok := fun _ => True) (okp := fun _ => True) ?hr ?hp (fun _ hk => hk) trivial (Below.refl _ _) (Nat.le_refl _) (by simp) ?_; (case hd => rfl); (case hg => rfl); (case hr => first | (go_simp; done) | (go_simp; rfl)); (case hp => exact (Reps.one (show Kd.M Kd.string _ _ _ (⟨#[44]⟩ : ByteArray) [.string (⟨#[44]⟩ : ByteArray)] from rfl) (Reps.one (show Kd.M Kd.string _ _ _ (⟨#[45]⟩ : ByteArray) [.string (⟨#[45]⟩ : ByteArray)] from rfl) (Reps.one (show Kd.M Kd.string _ _ _ (⟨#[48]⟩ : ByteArray) [.string (⟨#[48]⟩ : ByteArray)] from rfl) (Reps.one (show Kd.M Kd.string _ _ _ (⟨#[120]⟩ : ByteArray) [.string (⟨#[120]⟩ : ByteArray)] from rfl) (Reps.one (show Kd.M Kd.string _ _ _ (⟨#[57, 57, 57, 57, 57, 57, 57, 57, 57, 57, 57, 57, 57, 57]⟩ : ByteArray) [.string (⟨#[57, 57, 57, 57, 57, 57, 57, 57, 57, 57, 57, 57, 57, 57]⟩ : ByteArray)] from rfl) (Reps.none _ _)))))))
           intro v152 w22 ho23 hb hg_ hnew_
           clear hg_ hnew_
           (first | rw [← Ny151.out] at ho23 | (simp only [Int.reduceToNat] at ho23; rw [← Ny151.out] at ho23))
           have n0_ := Aside0.mk (Kd.R_below (by (with_reducible repeat (first | apply Kd.R_alloc | apply Kd.R_drewN | apply Kd.R_drew)); exact HO147.out) hb)
           have n1_ := Aside0.mk (Kd.R_lower ho23 (below_size (by repeat (first | (with_reducible first | exact HB.out | apply below_alloc | apply pw_below_drewN | apply below_drew1) | exact HB.out))))
           have n2_ := Aside0.mk (below_step (by repeat (first | (with_reducible first | exact HB.out | apply below_alloc | apply pw_below_drewN | apply below_drew1) | exact HB.out)) hb)
           clear HO147
           clear HB
           have HO147 := n0_
           have HO153 := n1_
           have HB := n2_
           clear n0_ n1_ n2_
           clear hb ho23
           obtain ⟨Ao24, co24, eo24⟩ := Kd.R_slice HO153.out
           subst eo24
           obtain ⟨ado24, fo24, _⟩ := Kd.at_string (Kd.R_reads' HO153.out).2.2 0 (by decide) (by rw [Ny151.out]; simp)
           cases fo24
           refine hK.out _ _ (((HB.out.cell (World.block_lt_of_cell? w _ hw154_0)).trans hw154_0)) (fun hHeld => ?_)
           clear hK K
           refine norm_ (a' := ?_) ?_ ?_
           rotate_left
           ·show Act.put _ (some 36) _ = _
            simp only [Act.put, List.setIfInBounds_toArray, List.set_cons_zero, List.set_cons_succ, i64_w, i32_w]
            rfl
           refine pure_ (i := 8) (N := some 41) (v := ?_) (a' := ?_) #[true, true, true, true, true, true, true, true, true, false, false, true, true, true, false, false] rfl rfl (any_of HT_.out (by kernel_rfl)) (fun _ _ _ h => h) (Or.inl ⟨by rfl, ?_⟩) ?_ ?_
           rotate_left
           ·intro w'
            go_simp
            with_reducible rfl
           rotate_left
           ·simp only [Act.put, List.setIfInBounds_toArray, List.set_cons_zero, List.set_cons_succ, i64_w, i32_w]
            rfl
           refine one_ (i := 9) (N := some 42) #[true, true, true, true, true, true, true, true, true, true, false, true, true, true, false, false] rfl rfl (one_of HT_.out (by kernel_rfl)) (by decide) (fun K hK => ?_)
           (have p155 : 0 ≤ ((ji11) : Int) := of_decide_eq_true (by first | (with_reducible assumption) | assumption); have q155 : (ji11) < (y151.length : Int) := of_decide_eq_true (by first | (with_reducible assumption) | assumption); obtain ⟨ad155, e155, hx155_0⟩ := Kd.at_string (Kd.R_reads' HO153.out).2.2 (ji11) p155 q155; obtain rfl : ado24 = ad155 := (by injection e155))
           refine value_ (w1 := ?_) (v := ?_) (by rfl) rfl ?_ ?_
           rotate_left 2
           ·go_simp
            constructor
            ·rfl
            ·rfl
           clear hx155_0
           refine hK.out _ _ (((HB.out.cell (World.block_lt_of_cell? w _ hw154_0)).trans hw154_0)) (fun hHeld => ?_)
           clear hK K
           refine norm_ (a' := ?_) ?_ ?_
           rotate_left
           ·show Act.put _ (some 42) _ = _
            simp only [Act.put, List.setIfInBounds_toArray, List.set_cons_zero, List.set_cons_succ, i64_w, i32_w]
            rfl
           refine pure_ (i := 10) (N := some 43) (v := ?_) (a' := ?_) #[true, true, true, true, true, true, true, true, true, true, true, true, true, true, false, false] rfl rfl (any_of HT_.out (by kernel_rfl)) (fun _ _ _ h => h) (Or.inl ⟨by rfl, ?_⟩) ?_ ?_
           rotate_left
           ·intro w'
            go_simp
            with_reducible rfl
           rotate_left
           ·simp only [Act.put, List.setIfInBounds_toArray, List.set_cons_zero, List.set_cons_succ, i64_w, i32_w]
            rfl
           refine pure_ (i := 14) (N := some 47) (v := ?_) (a' := ?_) #[true, true, true, true, true, true, true, true, true, true, true, true, true, true, true, false] rfl rfl (any_of HT_.out (by kernel_rfl)) (fun _ _ _ h => h) (Or.inl ⟨by rfl, ?_⟩) ?_ ?_
           rotate_left
           ·intro w'
            go_simp
            with_reducible rfl
           rotate_left
           ·simp only [Act.put, List.setIfInBounds_toArray, List.set_cons_zero, List.set_cons_succ, i64_w, i32_w]
            rfl
           refine pure_ (i := 15) (N := some 6) (v := ?_) (a' := ?_) #[true, true, true, true, true, true, true, true, true, true, true, true, true, true, true, true] rfl rfl (any_of HT_.out (by kernel_rfl)) (fun _ _ _ h => h) (Or.inl ⟨by rfl, ?_⟩) ?_ ?_
           rotate_left
           ·intro w'
            go_simp
            with_reducible rfl
           rotate_left
           ·simp only [Act.put, List.setIfInBounds_toArray, List.set_cons_zero, List.set_cons_succ, i64_w, i32_w]
            rfl
           refine done_ (done_of HT_.out (by kernel_rfl)) ?_
           try go_wp2
           go_ret
           exact ⟨by first | rfl | (simp [errW_none, errW_some] <;> rfl) | (simp only [← hji8, ← hji11]; first | rfl | (simp [errW_none, errW_some] <;> rfl)) | (simp [*, errW_none, errW_some] <;> rfl), by repeat (first | (with_reducible first | exact HB.out | apply below_alloc | apply pw_below_drewN | apply below_drew1) | exact HB.out)⟩
          ·rw [if_neg c17] at H
           exact absurd H (by simp)
         ·rw [if_neg c14] at H
          exact absurd H (by simp)
        ·rw [if_neg c13] at H
         exact absurd H (by simp)
       ·rw [if_neg c12] at H
        exact absurd H (by simp)
      ·rw [if_neg c10] at H
       exact absurd H (by simp)
     ·rw [if_neg c9] at H
      exact absurd H (by simp)
   ·rw [if_neg c6] at H
    have c6b0 : decide (150 < (rd l0 0)) = false := decide_eq_false c6
    clear c6
    obtain rfl := Option.some.inj H
    go_enter Tryd.func22, Tryd.ntmps22
    go_wp2_with (first | ((with_reducible refine gate_callee (f := 9) rfl ?_); refine goesL_ (some 10) rfl rfl Tryd.func9 (by kernel_rfl) rfl #[.slice A0 l0.length c0] rfl (by (try simp only [List.map_toArray, List.map_cons, List.map_nil]); first | done | rfl | (simp only [List.length_drop, List.length_take]; rfl)) ?_; (with_reducible refine (mudlarklaw09_Parts.calls k _ _ l0 t143 t144 t145 _ ?side1 ?side2 A2.out).mono ?_); (case side1 => repeat (first | exact HR0.out | (with_reducible refine Kd.C_alloc ?_ _) | (with_reducible refine Kd.C_drewN ?_ _) | (with_reducible refine Kd.C_drew ?_))); (case side2 => exact HC0.out); rintro e w25 ⟨v146, rfl, ho0, hb⟩; refine ⟨_, rfl, ?_⟩; have n0_ := Aside0.mk (Kd.R_lower ho0 (below_size (by repeat (first | (with_reducible first | exact HB.out | apply below_alloc | apply pw_below_drewN | apply below_drew1) | exact HB.out)))); have n1_ := Aside0.mk (below_step (by repeat (first | (with_reducible first | exact HB.out | apply below_alloc | apply pw_below_drewN | apply below_drew1) | exact HB.out)) hb); clear HB; have HO147 := n0_; have HB := n1_; clear n0_ n1_; (try clear hb); (try clear hb2); (try clear hk); (try clear hi); (try clear ho0); obtain ⟨Ao26, co26, eo26⟩ := Kd.R_slice HO147.out; subst eo26) | ((with_reducible refine gate_callee (f := 31) rfl ?_); refine goesL_ (some 15) rfl rfl Tryd.func31 (by kernel_rfl) rfl #[.slice Ao26 t143.length co26] rfl (by (try simp only [List.map_toArray, List.map_cons, List.map_nil]); first | done | rfl | (simp only [List.length_drop, List.length_take]; rfl)) ?_; (with_reducible refine (mudlarkref09_Print.calls k _ _ t143 t148 _ ?side1 ?side2 A3.out (HT.out.below (by repeat (first | (with_reducible first | exact HB.out | apply below_alloc | apply pw_below_drewN | apply below_drew1) | exact HB.out)))).mono ?_); (case side1 => repeat (first | exact (Kd.R_reads' HO147.out).2.2 | (with_reducible refine Kd.C_alloc ?_ _) | (with_reducible refine Kd.C_drewN ?_ _) | (with_reducible refine Kd.C_drew ?_))); (case side2 => exact (Kd.R_reads' HO147.out).2.1); rintro e w27 ⟨rfl, hb⟩; refine ⟨_, rfl, ?_⟩; have n0_ := Aside0.mk (Kd.R_below (by (with_reducible repeat (first | apply Kd.R_alloc | apply Kd.R_drewN | apply Kd.R_drew)); exact HO147.out) hb); have n1_ := Aside0.mk (below_step (by repeat (first | (with_reducible first | exact HB.out | apply below_alloc | apply pw_below_drewN | apply below_drew1) | exact HB.out)) hb); clear HO147; clear HB; have HO147 := n0_; have HB := n1_; clear n0_ n1_; (try clear hb); (try clear hb2); (try clear hk); (try clear hi); have p149 : 0 ≤ (0 : Int) := (by ((try clear hji11); (try clear hji8); omega)); have q149 : 0 < (l0.length : Int) := of_decide_eq_true (by first | (with_reducible assumption) | assumption); obtain ⟨ad149, e149, hx149_0⟩ := Kd.at_int HR0.out 0 p149 q149; cases e149; have qi149 : (0 < l0.length) = True := eq_true (by ((try clear hji11); (try clear hji8); omega)); (try rw [show ((0 : Int)).toNat = 0 from rfl] at hx149_0); (try rw [Addr.add_zero'] at hx149_0); replace hx149_0 := (HB.out.cell (World.block_lt_of_cell? w _ hx149_0)).trans hx149_0; replace p149 := eq_true p149; replace q149 := eq_true q149))
    go_ret
    exact ⟨by first | rfl | (simp [errW_none, errW_some] <;> rfl) | (simp [*, errW_none, errW_some] <;> rfl), by repeat (first | (with_reducible first | exact HB.out | apply below_alloc | apply pw_below_drewN | apply below_drew1) | exact HB.out)⟩
  ·rw [if_neg c5] at H
   exact absurd H (by simp)
 ·rw [if_neg c4] at H
  have c4b0 : decide (0 < (l0.length : Int)) = false := decide_eq_false c4
  have c4b1 : decide (0 < l0.length) = false := decide_eq_false (by ((try clear hji11); (try clear hji8); omega))
  clear c4
  obtain rfl := Option.some.inj H
  go_enter Tryd.func22, Tryd.ntmps22
  go_wp2_with (first | ((with_reducible refine gate_callee (f := 9) rfl ?_); refine goesL_ (some 10) rfl rfl Tryd.func9 (by kernel_rfl) rfl #[.slice A0 l0.length c0] rfl (by (try simp only [List.map_toArray, List.map_cons, List.map_nil]); first | done | rfl | (simp only [List.length_drop, List.length_take]; rfl)) ?_; (with_reducible refine (mudlarklaw09_Parts.calls k _ _ l0 t143 t144 t145 _ ?side1 ?side2 A2.out).mono ?_); (case side1 => repeat (first | exact HR0.out | (with_reducible refine Kd.C_alloc ?_ _) | (with_reducible refine Kd.C_drewN ?_ _) | (with_reducible refine Kd.C_drew ?_))); (case side2 => exact HC0.out); rintro e w28 ⟨v146, rfl, ho0, hb⟩; refine ⟨_, rfl, ?_⟩; have n0_ := Aside0.mk (Kd.R_lower ho0 (below_size (by repeat (first | (with_reducible first | exact HB.out | apply below_alloc | apply pw_below_drewN | apply below_drew1) | exact HB.out)))); have n1_ := Aside0.mk (below_step (by repeat (first | (with_reducible first | exact HB.out | apply below_alloc | apply pw_below_drewN | apply below_drew1) | exact HB.out)) hb); clear HB; have HO147 := n0_; have HB := n1_; clear n0_ n1_; (try clear hb); (try clear hb2); (try clear hk); (try clear hi); (try clear ho0); obtain ⟨Ao29, co29, eo29⟩ := Kd.R_slice HO147.out; subst eo29) | ((with_reducible refine gate_callee (f := 31) rfl ?_); refine goesL_ (some 15) rfl rfl Tryd.func31 (by kernel_rfl) rfl #[.slice Ao29 t143.length co29] rfl (by (try simp only [List.map_toArray, List.map_cons, List.map_nil]); first | done | rfl | (simp only [List.length_drop, List.length_take]; rfl)) ?_; (with_reducible refine (mudlarkref09_Print.calls k _ _ t143 t148 _ ?side1 ?side2 A3.out (HT.out.below (by repeat (first | (with_reducible first | exact HB.out | apply below_alloc | apply pw_below_drewN | apply below_drew1) | exact HB.out)))).mono ?_); (case side1 => repeat (first | exact (Kd.R_reads' HO147.out).2.2 | (with_reducible refine Kd.C_alloc ?_ _) | (with_reducible refine Kd.C_drewN ?_ _) | (with_reducible refine Kd.C_drew ?_))); (case side2 => exact (Kd.R_reads' HO147.out).2.1); rintro e w30 ⟨rfl, hb⟩; refine ⟨_, rfl, ?_⟩; have n0_ := Aside0.mk (Kd.R_below (by (with_reducible repeat (first | apply Kd.R_alloc | apply Kd.R_drewN | apply Kd.R_drew)); exact HO147.out) hb); have n1_ := Aside0.mk (below_step (by repeat (first | (with_reducible first | exact HB.out | apply below_alloc | apply pw_below_drewN | apply below_drew1) | exact HB.out)) hb); clear HO147; clear HB; have HO147 := n0_; have HB := n1_; clear n0_ n1_; (try clear hb); (try clear hb2); (try clear hk); (try clear hi)))
  go_ret
  exact ⟨by first | rfl | (simp [errW_none, errW_some] <;> rfl) | (simp [*, errW_none, errW_some] <;> rfl), by repeat (first | (with_reducible first | exact HB.out | apply below_alloc | apply pw_below_drewN | apply below_drew1) | exact HB.out)⟩

end Go.Proofs.YtlnbkmlidmgbaaaDoor.P
