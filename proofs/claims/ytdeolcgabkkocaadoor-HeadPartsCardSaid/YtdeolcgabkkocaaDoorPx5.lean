/- Lean functions with the answers of the Go functions of this seat, and for each the proof that the Go code comes to them (made by the session's program over the kit's print). No conditions. -/
import Derived.Test.YtdeolcgabkkocaaDoorPx0
import Derived.Test.YtdeolcgabkkocaaDoorPx4
import Derived.Test.YtdeolcgabkkocaaDoorHOct
namespace Go.Proofs.YtdeolcgabkkocaaDoor.P
open Go.RowKit Go.Proofs.YtdeolcgabkkocaaDoorW.PrintWords Go.Proofs.YtdeolcgabkkocaaDoorW.PrintLast Go.Proofs.YtdeolcgabkkocaaDoorW.PrintMore
attribute [local go_sem] max2_int min2_int max_two min_two max_three min_three max_four min_four   -- for this text's walks alone
set_option linter.unusedVariables false
set_option linter.unusedSimpArgs false

/-! ### head_Parts: function 29 -/
mutual
def head_Parts.l0 : Nat → List Int → List (S49) → Int → Int → Option ((List (S49)) × Bool)
 | 0, _, _, _, _ => none
 | k + 1, x0, x8, x23, x24 => if x24 < x23 then (if (x0.length : Int) < 24 then (some (([] : List (S49)), false)) else (if 12 ≤ (x0.length : Int) then ((num_Parse.f k (x0.take 12)).bind fun bt163 => (if 12 ≤ 24 then (if 24 ≤ (x0.length : Int) then ((num_Parse.f k ((x0.take 24).drop 12)).bind fun bt170 => (if bt163.2 = true then (if bt170.2 = true then (head_Parts.j1 k x0 x8 bt163.1 bt170.1 x23 x24 (decide ((mn bt163.1 bt170.1) < 0))) else (head_Parts.j1 k x0 x8 bt163.1 bt170.1 x23 x24 true)) else (head_Parts.j1 k x0 x8 bt163.1 bt170.1 x23 x24 true))) else (none)) else (none))) else (none))) else (some (x8, true))
def head_Parts.j1 : Nat → List Int → List (S49) → Int → Int → Int → Int → Bool → Option ((List (S49)) × Bool)
 | 0, _, _, _, _, _, _, _ => none
 | k + 1, x0, x8, x9, x11, x23, x24, x52 => if x52 = true then (some (([] : List (S49)), false)) else (if x9 = 0 then (if x11 = 0 then (some (x8, true)) else (if x8.length < 8796093022208 then (if 24 ≤ (x0.length : Int) then (head_Parts.l0 k (x0.drop 24) (x8 ++ [(⟨x9, x11⟩ : S49)]) x23 (wrap64 (x24 + 1))) else (none)) else (none))) else (if x8.length < 8796093022208 then (if 24 ≤ (x0.length : Int) then (head_Parts.l0 k (x0.drop 24) (x8 ++ [(⟨x9, x11⟩ : S49)]) x23 (wrap64 (x24 + 1))) else (none)) else (none)))
end
def head_Parts.f (k : Nat) (l0 : List Int) (a1 : Int) (a2 : Int) : Option ((List (S49)) × Bool) := if 0 ≤ (mn (l0.length : Int) (mx 0 (mn a1 512))) then (if (mn (l0.length : Int) (mx 0 (mn a1 512))) ≤ (l0.length : Int) then (head_Parts.l0 k (l0.drop ((mn (l0.length : Int) (mx 0 (mn a1 512))) : Int).toNat) ([] : List (S49)) (mx 0 (mn a2 21)) 0) else (none)) else (none)
def head_Parts.T12 : Bool × List (List Nat × List Nat) := (true, [([], []), ([], []), ([], []), ([1, 2], [1, 2]), ([3], [3]), ([0, 4], [0, 4]), ([], []), ([6], [6]), ([5, 5, 0, 1, 2, 3, 4, 5], [0, 5]), ([7, 8, 0, 1, 2, 3, 4, 5, 6, 7, 8], [6, 7])])
def head_Parts.B12 : List Nat := [0, 0, 0, 6, 14, 31, 0, 64, 63, 511]
theorem head_Parts.tab12 : rtab .any (opsOf Tryd.f29 12) = head_Parts.T12 := by kernel_rfl
theorem head_Parts.bits12 : waitsOk head_Parts.T12.2 head_Parts.B12 = true := by kernel_rfl
set_option maxHeartbeats 8000000 in
set_option maxRecDepth 100000 in
theorem head_Parts.calls (k : Nat) (P0_ : Nat → Prop) (A0 : Option Addr) (c0 : Nat) (l0 : List Int) (a1 : Int) (a2 : Int) (r1 : List (S49)) (r2 : Bool) (w : World) (hs0 : Kd.V (Kd.int .u8) 5 w w.heap.size (fun k_ => P0_ k_) (.slice A0 l0.length c0) l0) (h : head_Parts.f k l0 a1 a2 = some (r1, r2)) :
  Calls Tryd.prog 29 #[.slice A0 l0.length c0, .int .i64 a1, .int .i64 a2] w fun e w' => ∃ v0_ : Value, e = .returned (.tuple #[v0_, .bool r2]) ∧ Kd.R k49 49 w' w.heap.size (fun k_ => (w.heap.size ≤ k_)) v0_ r1 ∧ Below w.heap.size w w' := by
 have hu49 := Tryd.underlying49
 have HO0 := Aside0.mk (show Kd.V (Kd.int .u8) 5 w w.heap.size (fun k_ => (P0_ k_ ∨ w.heap.size ≤ k_)) (.slice A0 l0.length c0) l0 from Kd.V_mono hs0 (fun k_ hk => .inl hk))
 have HB := Aside0.mk (Below.refl w.heap.size w)
 have H : (if 0 ≤ (mn (l0.length : Int) (mx 0 (mn a1 512))) then (if (mn (l0.length : Int) (mx 0 (mn a1 512))) ≤ (l0.length : Int) then (head_Parts.l0 k (l0.drop ((mn (l0.length : Int) (mx 0 (mn a1 512))) : Int).toNat) ([] : List (S49)) (mx 0 (mn a2 21)) 0) else (none)) else (none)) = some (r1, r2) := h
 clear h
 obtain ⟨ji4, hji4⟩ : ∃ j_ : Int, (mn a1 512) = j_ := ⟨_, rfl⟩
 replace H : (if 0 ≤ (mn (l0.length : Int) (mx 0 (ji4))) then (if (mn (l0.length : Int) (mx 0 (ji4))) ≤ (l0.length : Int) then (head_Parts.l0 k (l0.drop ((mn (l0.length : Int) (mx 0 (ji4))) : Int).toNat) ([] : List (S49)) (mx 0 (mn a2 21)) 0) else (none)) else (none)) = some (r1, r2) := by first | (rw [hji4] at H; exact H) | (simp only [hji4] at H ⊢; exact H)
 (try (have hji4h : ji4 ≤ 512 := by (rw [← hji4]; unfold mn; (repeat' split) <;> omega)))
 (try (have hji4g : ji4 ≤ 64 := by omega))
 have hji4_ : (if 512 < a1 then 512 else a1) = ji4 := hji4
 obtain ⟨ji5, hji5⟩ : ∃ j_ : Int, (mx 0 (ji4)) = j_ := ⟨_, rfl⟩
 replace H : (if 0 ≤ (mn (l0.length : Int) (ji5)) then (if (mn (l0.length : Int) (ji5)) ≤ (l0.length : Int) then (head_Parts.l0 k (l0.drop ((mn (l0.length : Int) (ji5)) : Int).toNat) ([] : List (S49)) (mx 0 (mn a2 21)) 0) else (none)) else (none)) = some (r1, r2) := by first | (rw [hji5] at H; exact H) | (simp only [hji5] at H ⊢; exact H)
 have hji5_ : (if 0 < (ji4) then (ji4) else 0) = ji5 := hji5
 obtain ⟨ji6, hji6⟩ : ∃ j_ : Int, (mn (l0.length : Int) (ji5)) = j_ := ⟨_, rfl⟩
 replace H : (if 0 ≤ (ji6) then (if (ji6) ≤ (l0.length : Int) then (head_Parts.l0 k (l0.drop ((ji6) : Int).toNat) ([] : List (S49)) (mx 0 (mn a2 21)) 0) else (none)) else (none)) = some (r1, r2) := by first | (rw [hji6] at H; exact H) | (simp only [hji6] at H ⊢; exact H)
 have hji6_ : (if (ji5) < (l0.length : Int) then (ji5) else (l0.length : Int)) = ji6 := hji6
 by_cases c7 : 0 ≤ (ji6)
 ·rw [if_pos c7] at H
  have c7b0 := eq_true c7
  have c7b1 : decide (0 ≤ (ji6)) = true := decide_eq_true c7
  clear c7
  by_cases c8 : (ji6) ≤ (l0.length : Int)
  ·rw [if_pos c8] at H
   have c8b0 := eq_true c8
   have c8b1 : decide ((ji6) ≤ (l0.length : Int)) = true := decide_eq_true c8
   clear c8
   obtain ⟨y153, hy153⟩ : ∃ y_ : List Int, y_ = (l0.drop ((ji6) : Int).toNat) := ⟨_, rfl⟩
   replace H : (head_Parts.l0 k y153 ([] : List (S49)) (mx 0 (mn a2 21)) 0) = some (r1, r2) := by first | (rw [hy153]; with_reducible exact H) | (have H2_ := (Option.bind_some _ _).symm.trans H; rw [hy153]; with_reducible exact H2_) | (have H2_ := (Option.bind_some _ _).symm.trans H; with_reducible exact H2_) | with_reducible exact H | (rw [hy153]; exact H) | exact H
   have Ny153 := Aside0.mk hy153
   clear hy153
   obtain ⟨ji9, hji9⟩ : ∃ j_ : Int, (mn a2 21) = j_ := ⟨_, rfl⟩
   replace H : (head_Parts.l0 k y153 ([] : List (S49)) (mx 0 (ji9)) 0) = some (r1, r2) := by first | (rw [hji9] at H; exact H) | (simp only [hji9] at H ⊢; exact H)
   (try (have hji9h : ji9 ≤ 21 := by (rw [← hji9]; unfold mn; (repeat' split) <;> omega)))
   (try (have hji9g : ji9 ≤ 64 := by omega))
   have hji9_ : (if 21 < a2 then 21 else a2) = ji9 := hji9
   obtain ⟨ji10, hji10⟩ : ∃ j_ : Int, (mx 0 (ji9)) = j_ := ⟨_, rfl⟩
   replace H : (head_Parts.l0 k y153 ([] : List (S49)) ji10 0) = some (r1, r2) := by first | (rw [hji10] at H; exact H) | (simp only [hji10] at H ⊢; exact H)
   have hji10_ : (if 0 < (ji9) then (ji9) else 0) = ji10 := hji10
   have H' := Aside0.mk H
   clear H
   have q11 : ((ji6) : Int) ≤ ((l0.length : Int) : Int) := of_decide_eq_true (by first | (with_reducible assumption) | assumption)
   obtain ⟨i011, hi011, _, hsz11, _⟩ := info_parts info5
   have hroom11 : l0.length ≤ c0 := (Kd.V_reads' HO0.out).2.1
   have hC11 : Kd.F (Kd.int .u8) _ _ A0 l0.length l0 := (Kd.V_at (base := w.heap.size) HO0.out).2.2
   have q011 : (0 : Int) ≤ ((ji6) : Int) := of_decide_eq_true (by first | (with_reducible assumption) | assumption)
   have hcut11 := cut_from (P := Tryd.prog) 22 5 .i64 Tryd.underlying22 hi011 1 hsz11 A0 l0.length c0 (ji6) q011 q11
   have hr11 := Kd.F_cut (m := ((ji6) : Int).toNat) (c := c0) hC11 (by omega) hroom11
   obtain ⟨A11, hA11⟩ : ∃ A1, A1 = (if c0 = ((ji6) : Int).toNat then A0 else (A0 : Option Addr).map (·.add (((ji6) : Int).toNat * 1))) := ⟨_, rfl⟩
   obtain ⟨c11, hc11⟩ : ∃ c1, c1 = c0 - ((ji6) : Int).toNat := ⟨_, rfl⟩
   have hy11 : y153.length = l0.length - ((ji6) : Int).toNat := (by rw [Ny153.out, List.length_drop] <;> omega)
   rw [show (l0).drop ((ji6) : Int).toNat = y153 from Ny153.out.symm] at hr11
   replace hr11 : Kd.F (Kd.int .u8) _ _ A11 y153.length y153 := (by rw [hA11]; exact hr11)
   rw [← hy11, ← hA11, ← hc11] at hcut11
   have HO157 := Aside0.mk (show Kd.V (Kd.int .u8) 5 _ w.heap.size _ (.slice A11 y153.length c11) y153 from Kd.V_mk (by rw [hy11, hc11]; exact Nat.sub_le_sub_right hroom11 _) hr11)
   have HC157 := Aside0.mk (show y153.length ≤ c11 from by rw [hy11, hc11]; exact Nat.sub_le_sub_right hroom11 _)
   clear hr11 hC11 hroom11 hi011 hsz11 hc11
   have KY11 := Aside0.mk hy11
   have KA11 := Aside0.mk hA11
   clear hy11 hA11
   replace q11 := eq_true q11
   go_enter Tryd.func29, Tryd.ntmps29
   go_wp2
   go_loopg [0, 8, 24] k (fun kq v0 v8 v24 w' => ∃ (x0_1 : List Int) (x8_1 : List (S49)) (x24_1 : Int), v24 = .int .i64 x24_1 ∧ Aside0 (head_Parts.l0 kq x0_1 x8_1 ji10 x24_1 = some (r1, r2)) ∧ Aside0 (kq ≤ k) ∧ Aside0 (Kd.V (Kd.int .u8) 5 w' w.heap.size (fun k_ => (P0_ k_ ∨ w.heap.size ≤ k_) ∧ some k_ ≠ (v8 : Value).ownBlock) v0 x0_1) ∧ Aside0 (Kd.R k49 49 w' w.heap.size (fun k_ => (w.heap.size ≤ k_)) v8 x8_1) ∧ Aside0 (Below w.heap.size w w'))
   case atStart => exact ⟨(y153), (([] : List (S49))), (0), (by first | rfl | (simp; done) | (simp [*]; done)), H', ⟨Nat.le_refl _⟩, ⟨by (with_reducible repeat (first | apply Kd.V_alloc | apply Kd.V_drewN | apply Kd.V_drew)); exact Kd.V_mono HO157.out (fun _ hk => ⟨hk, (by simp [Value.ownBlock])⟩)⟩, ⟨by first | exact Kd.R_nil _ _ _ _ _ | exact Kd.N_nil _ _ _ _ _ | exact Kd.V_nil _ _ _ _ _ | exact Kd.Q_nil _ _ _ _ _ | exact Kd.S_nil _ _ _ _ _⟩, ⟨by repeat (first | (with_reducible first | exact HB.out | apply below_alloc | apply pw_below_drewN | apply below_drew1) | exact HB.out)⟩⟩
   case round =>
    clear H'
    try clear c1
    try clear q1
    try clear c2
    try clear p2
    try clear c7
    try clear c7b0
    try clear c7b1
    try clear c8
    try clear c8b0
    try clear c8b1
    try clear c11
    try clear q11
    try clear q011
    try clear q11
    obtain ⟨x0_1, x8_1, x24_1, rfl, HA, HK1, HO_0, HO_8, HB⟩ := hrel
    cases gk with
    | zero => exact absurd HA.out (by simp [head_Parts.l0])
    | succ k1 =>
     have H := HA.out
     clear HA
     simp only [head_Parts.l0] at H
     by_cases c12 : x24_1 < ji10
     ·rw [if_pos c12] at H
      have c12b0 : decide (x24_1 < ji10) = true := decide_eq_true c12
      clear c12
      by_cases c13 : (x0_1.length : Int) < 24
      ·rw [if_pos c13] at H
       have c13b0 : decide ((x0_1.length : Int) < 24) = true := decide_eq_true c13
       have c13b1 : decide (x0_1.length < 24) = true := decide_eq_true (by omega)
       clear c13
       simp only [Option.some.injEq, Prod.mk.injEq] at H
       obtain ⟨rfl, rfl⟩ := H
       obtain ⟨Ao14, co14, eo14⟩ := Kd.V_slice HO_0.out
       subst eo14
       go_wp2
       go_ret2
       exact ⟨_, by first | rfl | (simp [errW_none, errW_some] <;> rfl) | (simp only [← hji4, ← hji5, ← hji6, ← hji9, ← hji10]; first | rfl | (simp [errW_none, errW_some] <;> rfl)) | (simp [*, errW_none, errW_some] <;> rfl), by first | exact Kd.R_nil _ _ _ _ _ | exact Kd.N_nil _ _ _ _ _ | exact Kd.V_nil _ _ _ _ _ | exact Kd.Q_nil _ _ _ _ _ | exact Kd.S_nil _ _ _ _ _, by repeat (first | (with_reducible first | exact HB.out | apply below_alloc | apply pw_below_drewN | apply below_drew1) | exact HB.out)⟩
      ·rw [if_neg c13] at H
       have c13b0 : decide ((x0_1.length : Int) < 24) = false := decide_eq_false c13
       have c13b1 : decide (x0_1.length < 24) = false := decide_eq_false (by omega)
       clear c13
       by_cases c15 : 12 ≤ (x0_1.length : Int)
       ·rw [if_pos c15] at H
        have c15b0 := eq_true c15
        have c15b1 : decide (12 ≤ (x0_1.length : Int)) = true := decide_eq_true c15
        clear c15
        obtain ⟨y158, hy158⟩ : ∃ y_ : List Int, y_ = (x0_1.take 12) := ⟨_, rfl⟩
        replace H : ((num_Parse.f k1 y158).bind fun bt163 => (if 12 ≤ 24 then (if 24 ≤ (x0_1.length : Int) then ((num_Parse.f k1 ((x0_1.take 24).drop 12)).bind fun bt170 => (if bt163.2 = true then (if bt170.2 = true then (head_Parts.j1 k1 x0_1 x8_1 bt163.1 bt170.1 ji10 x24_1 (decide ((mn bt163.1 bt170.1) < 0))) else (head_Parts.j1 k1 x0_1 x8_1 bt163.1 bt170.1 ji10 x24_1 true)) else (head_Parts.j1 k1 x0_1 x8_1 bt163.1 bt170.1 ji10 x24_1 true))) else (none)) else (none))) = some (r1, r2) := by first | (rw [hy158]; with_reducible exact H) | (have H2_ := (Option.bind_some _ _).symm.trans H; rw [hy158]; with_reducible exact H2_) | (have H2_ := (Option.bind_some _ _).symm.trans H; with_reducible exact H2_) | with_reducible exact H | (rw [hy158]; exact H) | exact H
        have Ny158 := Aside0.mk hy158
        clear hy158
        replace H := Option.bind_eq_some_iff.mp H
        obtain ⟨⟨t163, t164⟩, A160, H⟩ := H
        replace H : (if 12 ≤ 24 then (if 24 ≤ (x0_1.length : Int) then ((num_Parse.f k1 ((x0_1.take 24).drop 12)).bind fun bt170 => (if t164 = true then (if bt170.2 = true then (head_Parts.j1 k1 x0_1 x8_1 t163 bt170.1 ji10 x24_1 (decide ((mn t163 bt170.1) < 0))) else (head_Parts.j1 k1 x0_1 x8_1 t163 bt170.1 ji10 x24_1 true)) else (head_Parts.j1 k1 x0_1 x8_1 t163 bt170.1 ji10 x24_1 true))) else (none)) else (none)) = some (r1, r2) := H
        have A16 := Aside0.mk A160
        clear A160
        by_cases c17 : 12 ≤ 24
        ·rw [if_pos c17] at H
         have c17b0 := eq_true c17
         have c17b1 : decide (12 ≤ 24) = true := decide_eq_true c17
         clear c17
         by_cases c18 : 24 ≤ (x0_1.length : Int)
         ·rw [if_pos c18] at H
          have c18b0 := eq_true c18
          have c18b1 : decide (24 ≤ (x0_1.length : Int)) = true := decide_eq_true c18
          clear c18
          obtain ⟨y165, hy165⟩ : ∃ y_ : List Int, y_ = ((x0_1.take 24).drop 12) := ⟨_, rfl⟩
          replace H : ((num_Parse.f k1 y165).bind fun bt170 => (if t164 = true then (if bt170.2 = true then (head_Parts.j1 k1 x0_1 x8_1 t163 bt170.1 ji10 x24_1 (decide ((mn t163 bt170.1) < 0))) else (head_Parts.j1 k1 x0_1 x8_1 t163 bt170.1 ji10 x24_1 true)) else (head_Parts.j1 k1 x0_1 x8_1 t163 bt170.1 ji10 x24_1 true))) = some (r1, r2) := by first | (rw [hy165]; with_reducible exact H) | (have H2_ := (Option.bind_some _ _).symm.trans H; rw [hy165]; with_reducible exact H2_) | (have H2_ := (Option.bind_some _ _).symm.trans H; with_reducible exact H2_) | with_reducible exact H | (rw [hy165]; exact H) | exact H
          have Ny165 := Aside0.mk hy165
          clear hy165
          replace H := Option.bind_eq_some_iff.mp H
          obtain ⟨⟨t170, t171⟩, A190, H⟩ := H
          replace H : (if t164 = true then (if t171 = true then (head_Parts.j1 k1 x0_1 x8_1 t163 t170 ji10 x24_1 (decide ((mn t163 t170) < 0))) else (head_Parts.j1 k1 x0_1 x8_1 t163 t170 ji10 x24_1 true)) else (head_Parts.j1 k1 x0_1 x8_1 t163 t170 ji10 x24_1 true)) = some (r1, r2) := H
          have A19 := Aside0.mk A190
          clear A190
          have HC20 := Aside0.mk H
          clear H
          obtain ⟨Ao21, co21, eo21⟩ := Kd.V_slice HO_0.out
          subst eo21
          have q22 : (12 : Int) ≤ ((x0_1.length : Int) : Int) := of_decide_eq_true (by first | (with_reducible assumption) | assumption)
          obtain ⟨i022, hi022, _, hsz22, _⟩ := info_parts info5
          have hroom22 : x0_1.length ≤ co21 := (Kd.V_reads' HO_0.out).2.1
          have hC22 : Kd.F (Kd.int .u8) _ _ Ao21 x0_1.length x0_1 := (Kd.V_at (base := w.heap.size) HO_0.out).2.2
          have hcut22 := cut_to (P := Tryd.prog) 22 5 .i64 Tryd.underlying22 hi022 Ao21 x0_1.length co21 12 (by omega) q22 hroom22
          have hr22 := Kd.F_take (m := 12) hC22 (by omega)
          have hy22 : y158.length = (12 : Int).toNat := (by rw [Ny158.out, List.length_take]; omega)
          rw [← Ny158.out] at hr22
          rw [← hy22] at hcut22
          have HO162 := Aside0.mk (show Kd.V (Kd.int .u8) 5 _ w.heap.size _ (.slice Ao21 y158.length co21) y158 from Kd.V_mk (by omega) hr22)
          have HC162 := Aside0.mk (show y158.length ≤ co21 from by omega)
          clear hr22 hC22 hroom22 hi022 hsz22
          have KY22 := Aside0.mk hy22
          clear hy22
          replace q22 := eq_true q22
          go_upto_region 9 with (first | ((with_reducible refine gate_callee (f := 43) rfl ?_); refine goesL_ (some 32) rfl rfl Tryd.func43 (by kernel_rfl) rfl #[.slice Ao21 y158.length co21] rfl (by (try simp only [List.map_toArray, List.map_cons, List.map_nil]); first | done | rfl | (simp only [List.length_drop, List.length_take]; rfl)) ?_; (with_reducible refine (num_Parse.calls k1 _ _ y158 t163 t164 _ ?side1 ?side2 A16.out).mono ?_); (case side1 => repeat (first | exact (Kd.V_reads' HO162.out).2.2 | (with_reducible refine Kd.C_alloc ?_ _) | (with_reducible refine Kd.C_drewN ?_ _) | (with_reducible refine Kd.C_drew ?_))); (case side2 => exact (Kd.V_reads' HO162.out).2.1); rintro e w23 ⟨rfl, hb⟩; refine ⟨_, rfl, ?_⟩; have n0_ := Aside0.mk (Kd.V_below (by (with_reducible repeat (first | apply Kd.V_alloc | apply Kd.V_drewN | apply Kd.V_drew)); exact HO_0.out) hb); have n1_ := Aside0.mk (Kd.R_below (by (with_reducible repeat (first | apply Kd.R_alloc | apply Kd.R_drewN | apply Kd.R_drew)); exact HO_8.out) hb); have n2_ := Aside0.mk (Kd.V_below (by (with_reducible repeat (first | apply Kd.V_alloc | apply Kd.V_drewN | apply Kd.V_drew)); exact HO162.out) hb); have n3_ := Aside0.mk (below_step (by repeat (first | (with_reducible first | exact HB.out | apply below_alloc | apply pw_below_drewN | apply below_drew1) | exact HB.out)) hb); clear HO_0; clear HO_8; clear HO162; clear HB; have HO_0 := n0_; have HO_8 := n1_; have HO162 := n2_; have HB := n3_; clear n0_ n1_ n2_ n3_; (try clear hb); (try clear hb2); (try clear hk); (try clear hi); have q24 : (24 : Int) ≤ ((x0_1.length : Int) : Int) := of_decide_eq_true (by first | (with_reducible assumption) | assumption); obtain ⟨i024, hi024, _, hsz24, _⟩ := info_parts info5; have hroom24 : x0_1.length ≤ co21 := (Kd.V_reads' HO_0.out).2.1; have hC24 : Kd.F (Kd.int .u8) _ _ Ao21 x0_1.length x0_1 := (Kd.V_at (base := w.heap.size) HO_0.out).2.2; have ql24 : (12 : Int) ≤ (24 : Int) := (by omega); have hcut24 := cut_mid (P := Tryd.prog) 22 5 .i64 .i64 Tryd.underlying22 hi024 1 hsz24 Ao21 x0_1.length co21 12 24 (by omega) ql24 q24 hroom24; have hr24 := Kd.F_mid (lo := (12 : Int).toNat) (hi := (24 : Int).toNat) (c := co21) hC24 (by omega) (by omega) hroom24; obtain ⟨A24, hA24⟩ : ∃ A1, A1 = (if co21 = (12 : Int).toNat then Ao21 else (Ao21 : Option Addr).map (·.add ((12 : Int).toNat * 1))) := ⟨_, rfl⟩; obtain ⟨c24, hc24⟩ : ∃ c1, c1 = co21 - (12 : Int).toNat := ⟨_, rfl⟩; have hy24 : y165.length = (24 : Int).toNat - (12 : Int).toNat := (by rw [Ny165.out, List.length_drop, List.length_take] <;> omega); rw [show ((x0_1).take (24 : Int).toNat).drop (12 : Int).toNat = y165 from Ny165.out.symm] at hr24; replace hr24 : Kd.F (Kd.int .u8) _ _ A24 y165.length y165 := (by rw [hA24]; exact hr24); rw [← hy24, ← hA24, ← hc24] at hcut24; have HO169 := Aside0.mk (show Kd.V (Kd.int .u8) 5 _ w.heap.size _ (.slice A24 y165.length c24) y165 from Kd.V_mk (by rw [hy24, hc24]; exact Nat.sub_le_sub_right (Nat.le_trans (by omega) hroom24) _) hr24); have HC169 := Aside0.mk (show y165.length ≤ c24 from by rw [hy24, hc24]; exact Nat.sub_le_sub_right (Nat.le_trans (by omega) hroom24) _); clear hr24 hC24 hroom24 hi024 hsz24 hc24; have KY24 := Aside0.mk hy24; have KA24 := Aside0.mk hA24; clear hy24 hA24; replace q24 := eq_true q24) | ((with_reducible refine gate_callee (f := 43) rfl ?_); refine goesL_ (some 38) rfl rfl Tryd.func43 (by kernel_rfl) rfl #[.slice A24 y165.length c24] rfl (by (try simp only [List.map_toArray, List.map_cons, List.map_nil]); first | done | rfl | (simp only [List.length_drop, List.length_take]; rfl)) ?_; (with_reducible refine (num_Parse.calls k1 _ _ y165 t170 t171 _ ?side1 ?side2 A19.out).mono ?_); (case side1 => repeat (first | exact (Kd.V_reads' HO169.out).2.2 | (with_reducible refine Kd.C_alloc ?_ _) | (with_reducible refine Kd.C_drewN ?_ _) | (with_reducible refine Kd.C_drew ?_))); (case side2 => exact (Kd.V_reads' HO169.out).2.1); rintro e w25 ⟨rfl, hb⟩; refine ⟨_, rfl, ?_⟩; have n0_ := Aside0.mk (Kd.V_below (by (with_reducible repeat (first | apply Kd.V_alloc | apply Kd.V_drewN | apply Kd.V_drew)); exact HO_0.out) hb); have n1_ := Aside0.mk (Kd.R_below (by (with_reducible repeat (first | apply Kd.R_alloc | apply Kd.R_drewN | apply Kd.R_drew)); exact HO_8.out) hb); have n2_ := Aside0.mk (Kd.V_below (by (with_reducible repeat (first | apply Kd.V_alloc | apply Kd.V_drewN | apply Kd.V_drew)); exact HO162.out) hb); have n3_ := Aside0.mk (Kd.V_below (by (with_reducible repeat (first | apply Kd.V_alloc | apply Kd.V_drewN | apply Kd.V_drew)); exact HO169.out) hb); have n4_ := Aside0.mk (below_step (by repeat (first | (with_reducible first | exact HB.out | apply below_alloc | apply pw_below_drewN | apply below_drew1) | exact HB.out)) hb); clear HO_0; clear HO_8; clear HO162; clear HO169; clear HB; have HO_0 := n0_; have HO_8 := n1_; have HO162 := n2_; have HO169 := n3_; have HB := n4_; clear n0_ n1_ n2_ n3_ n4_; (try clear hb); (try clear hb2); (try clear hk); (try clear hi)))
          (try simp only [Act.put, List.setIfInBounds_toArray, List.set_cons_zero, List.set_cons_succ])
          go_cut [52] (fun v52 wc => ∃ (kq : Nat) (x52_19 : Bool), v52 = .bool x52_19 ∧ Aside0 (head_Parts.j1 kq x0_1 x8_1 t163 t170 ji10 x24_1 x52_19 = some (r1, r2)) ∧ Aside0 (kq ≤ k1) ∧ Aside0 (Kd.V (Kd.int .u8) 5 wc w.heap.size (fun k_ => (P0_ k_ ∨ w.heap.size ≤ k_) ∧ some k_ ≠ (u8 : Value).ownBlock) (.slice Ao21 x0_1.length co21) x0_1) ∧ Aside0 (Kd.R k49 49 wc w.heap.size (fun k_ => (w.heap.size ≤ k_)) u8 x8_1) ∧ Aside0 (Below w.heap.size w wc))
          case first =>
           have H := HC20.out
           clear HC20
           by_cases c26 : t164 = true
           ·subst c26
            have H1 : (if t171 = true then (head_Parts.j1 k1 x0_1 x8_1 t163 t170 ji10 x24_1 (decide ((mn t163 t170) < 0))) else (head_Parts.j1 k1 x0_1 x8_1 t163 t170 ji10 x24_1 true)) = some (r1, r2) := by rw [if_pos rfl] at H; exact H
            clear H
            have H := H1
            clear H1
            by_cases c27 : t171 = true
            ·subst c27
             have H1 : (head_Parts.j1 k1 x0_1 x8_1 t163 t170 ji10 x24_1 (decide ((mn t163 t170) < 0))) = some (r1, r2) := by rw [if_pos rfl] at H; exact H
             clear H
             have H := H1
             clear H1
             obtain ⟨ji28, hji28⟩ : ∃ j_ : Int, (mn t163 t170) = j_ := ⟨_, rfl⟩
             replace H : (head_Parts.j1 k1 x0_1 x8_1 t163 t170 ji10 x24_1 (decide ((ji28) < 0))) = some (r1, r2) := by first | (rw [hji28] at H; exact H) | (simp only [hji28] at H ⊢; exact H)
             have hji28_ : (if t170 < t163 then t170 else t163) = ji28 := hji28
             have H' := Aside0.mk H
             clear H
             go_wp2
             go_meet
             case rel => exact ⟨_, (decide ((ji28) < 0)), (by first | rfl | (simp; done) | (simp only [← hji28] <;> (first | rfl | simp)) | (simp [*]; done)), H', ⟨by have := HK1.out; first | omega | exact Nat.le_refl _⟩, ⟨by (with_reducible repeat (first | apply Kd.V_alloc | apply Kd.V_drewN | apply Kd.V_drew)); exact HO_0.out⟩, ⟨by (with_reducible repeat (first | apply Kd.R_alloc | apply Kd.R_drewN | apply Kd.R_drew)); exact HO_8.out⟩, ⟨by repeat (first | (with_reducible first | exact HB.out | apply below_alloc | apply pw_below_drewN | apply below_drew1) | exact HB.out)⟩⟩
            ·replace c27 := Bool.eq_false_iff.mpr c27
             subst c27
             have H1 : (head_Parts.j1 k1 x0_1 x8_1 t163 t170 ji10 x24_1 true) = some (r1, r2) := by rw [if_neg (show ¬ (false = true) by decide)] at H; exact H
             clear H
             have H := H1
             clear H1
             have H' := Aside0.mk H
             clear H
             go_wp2
             go_meet
             case rel => exact ⟨_, (true), (by first | rfl | (simp; done) | (simp [*]; done)), H', ⟨by have := HK1.out; first | omega | exact Nat.le_refl _⟩, ⟨by (with_reducible repeat (first | apply Kd.V_alloc | apply Kd.V_drewN | apply Kd.V_drew)); exact HO_0.out⟩, ⟨by (with_reducible repeat (first | apply Kd.R_alloc | apply Kd.R_drewN | apply Kd.R_drew)); exact HO_8.out⟩, ⟨by repeat (first | (with_reducible first | exact HB.out | apply below_alloc | apply pw_below_drewN | apply below_drew1) | exact HB.out)⟩⟩
           ·replace c26 := Bool.eq_false_iff.mpr c26
            subst c26
            have H1 : (head_Parts.j1 k1 x0_1 x8_1 t163 t170 ji10 x24_1 true) = some (r1, r2) := by rw [if_neg (show ¬ (false = true) by decide)] at H; exact H
            clear H
            have H := H1
            clear H1
            have H' := Aside0.mk H
            clear H
            go_wp2
            go_meet
            case rel => exact ⟨_, (true), (by first | rfl | (simp; done) | (simp [*]; done)), H', ⟨by have := HK1.out; first | omega | exact Nat.le_refl _⟩, ⟨by (with_reducible repeat (first | apply Kd.V_alloc | apply Kd.V_drewN | apply Kd.V_drew)); exact HO_0.out⟩, ⟨by (with_reducible repeat (first | apply Kd.R_alloc | apply Kd.R_drewN | apply Kd.R_drew)); exact HO_8.out⟩, ⟨by repeat (first | (with_reducible first | exact HB.out | apply below_alloc | apply pw_below_drewN | apply below_drew1) | exact HB.out)⟩⟩
          case rest =>
           clear HC20
           try clear c1
           try clear q1
           try clear c2
           try clear p2
           try clear q2
           try clear c4
           try clear c7
           try clear c7b0
           try clear c7b1
           try clear c8
           try clear c8b0
           try clear c8b1
           try clear c11
           try clear q11
           try clear c12
           try clear c12b0
           try clear c13
           try clear c13b0
           try clear c13b1
           try clear c15
           try clear c15b0
           try clear c15b1
           try clear c17
           try clear c17b0
           try clear c17b1
           try clear c18
           try clear c18b0
           try clear c18b1
           try clear q22
           try clear c24
           try clear q24
           try clear c26
           try clear c27
           try clear p2
           try clear q011
           try clear q1
           try clear q11
           try clear q22
           try clear q24
           obtain ⟨kq, x52_19, rfl, HA, HJ19, HO_0, HO_8, HB⟩ := hcut
           cases kq with
           | zero => exact absurd HA.out (by simp [head_Parts.j1])
           | succ kj19 =>
            have H := HA.out
            clear HA
            simp only [head_Parts.j1] at H
            by_cases c29 : x52_19 = true
            ·subst c29
             have H1 : (some (([] : List (S49)), false)) = some (r1, r2) := by rw [if_pos rfl] at H; exact H
             clear H
             have H := H1
             clear H1
             simp only [Option.some.injEq, Prod.mk.injEq] at H
             obtain ⟨rfl, rfl⟩ := H
             go_wp2
             go_ret2
             exact ⟨_, by first | rfl | (simp [errW_none, errW_some] <;> rfl) | (simp only [← hji4, ← hji5, ← hji6, ← hji9, ← hji10]; first | rfl | (simp [errW_none, errW_some] <;> rfl)) | (simp [*, errW_none, errW_some] <;> rfl), by first | exact Kd.R_nil _ _ _ _ _ | exact Kd.N_nil _ _ _ _ _ | exact Kd.V_nil _ _ _ _ _ | exact Kd.Q_nil _ _ _ _ _ | exact Kd.S_nil _ _ _ _ _, by repeat (first | (with_reducible first | exact HB.out | apply below_alloc | apply pw_below_drewN | apply below_drew1) | exact HB.out)⟩
            ·replace c29 := Bool.eq_false_iff.mpr c29
             subst c29
             have H1 : (if t163 = 0 then (if t170 = 0 then (some (x8_1, true)) else (if x8_1.length < 8796093022208 then (if 24 ≤ (x0_1.length : Int) then (head_Parts.l0 kj19 (x0_1.drop 24) (x8_1 ++ [(⟨t163, t170⟩ : S49)]) ji10 (wrap64 (x24_1 + 1))) else (none)) else (none))) else (if x8_1.length < 8796093022208 then (if 24 ≤ (x0_1.length : Int) then (head_Parts.l0 kj19 (x0_1.drop 24) (x8_1 ++ [(⟨t163, t170⟩ : S49)]) ji10 (wrap64 (x24_1 + 1))) else (none)) else (none))) = some (r1, r2) := by rw [if_neg (show ¬ (false = true) by decide)] at H; exact H
             clear H
             have H := H1
             clear H1
             by_cases c30 : t163 = 0
             ·rw [if_pos c30] at H
              have c30b0 : (t163 == 0) = true := beq_iff_eq.mpr c30
              have c30b1 : (t163 != 0) = false := bne_eq_false_iff_eq.mpr c30
              clear c30
              by_cases c31 : t170 = 0
              ·rw [if_pos c31] at H
               have c31b0 : (t170 == 0) = true := beq_iff_eq.mpr c31
               have c31b1 : (t170 != 0) = false := bne_eq_false_iff_eq.mpr c31
               clear c31
               simp only [Option.some.injEq, Prod.mk.injEq] at H
               obtain ⟨rfl, rfl⟩ := H
               go_wp2
               go_ret2
               exact ⟨_, by first | rfl | (simp [errW_none, errW_some] <;> rfl) | (simp only [← hji4, ← hji5, ← hji6, ← hji9, ← hji10]; first | rfl | (simp [errW_none, errW_some] <;> rfl)) | (simp [*, errW_none, errW_some] <;> rfl), by (with_reducible repeat (first | apply Kd.R_alloc | apply Kd.R_drewN | apply Kd.R_drew)); exact HO_8.out, by repeat (first | (with_reducible first | exact HB.out | apply below_alloc | apply pw_below_drewN | apply below_drew1) | exact HB.out)⟩
              ·rw [if_neg c31] at H
               have c31b0 : (t170 == 0) = false := beq_eq_false_iff_ne.mpr c31
               have c31b1 : (t170 != 0) = true := bne_iff_ne.mpr c31
               by_cases c32 : x8_1.length < 8796093022208
               ·rw [if_pos c32] at H
                have LMc32 := Aside0.mk c32
                clear c32
                obtain ⟨y172, hy172⟩ : ∃ y_ : List (S49), y_ = (x8_1 ++ [(⟨t163, t170⟩ : S49)]) := ⟨_, rfl⟩
                replace H : (if 24 ≤ (x0_1.length : Int) then (head_Parts.l0 kj19 (x0_1.drop 24) y172 ji10 (wrap64 (x24_1 + 1))) else (none)) = some (r1, r2) := by first | (rw [hy172]; with_reducible exact H) | (have H2_ := (Option.bind_some _ _).symm.trans H; rw [hy172]; with_reducible exact H2_) | (have H2_ := (Option.bind_some _ _).symm.trans H; with_reducible exact H2_) | with_reducible exact H | (rw [hy172]; exact H) | exact H
                have Ny172 := Aside0.mk hy172
                clear hy172
                by_cases c33 : 24 ≤ (x0_1.length : Int)
                ·rw [if_pos c33] at H
                 have c33b0 := eq_true c33
                 have c33b1 : decide (24 ≤ (x0_1.length : Int)) = true := decide_eq_true c33
                 clear c33
                 obtain ⟨y175, hy175⟩ : ∃ y_ : List Int, y_ = (x0_1.drop 24) := ⟨_, rfl⟩
                 replace H : (head_Parts.l0 kj19 y175 y172 ji10 (wrap64 (x24_1 + 1))) = some (r1, r2) := by first | (rw [hy175]; with_reducible exact H) | (have H2_ := (Option.bind_some _ _).symm.trans H; rw [hy175]; with_reducible exact H2_) | (have H2_ := (Option.bind_some _ _).symm.trans H; with_reducible exact H2_) | with_reducible exact H | (rw [hy175]; exact H) | exact H
                 have Ny175 := Aside0.mk hy175
                 clear hy175
                 have H' := Aside0.mk H
                 clear H
                 try go_wp2
                 have n0_ := Aside0.mk (Kd.V_drew HO_0.out)
                 have n1_ := Aside0.mk (Kd.R_drew HO_8.out)
                 have n2_ := Aside0.mk (below_drew1 HB.out)
                 clear HO_0
                 clear HO_8
                 clear HB
                 have HO_0 := n0_
                 have HO_8 := n1_
                 have HB := n2_
                 clear n0_ n1_ n2_
                 have q35 : (24 : Int) ≤ ((x0_1.length : Int) : Int) := of_decide_eq_true (by first | (with_reducible assumption) | assumption)
                 obtain ⟨i035, hi035, _, hsz35, _⟩ := info_parts info5
                 have hroom35 : x0_1.length ≤ co21 := (Kd.V_reads' HO_0.out).2.1
                 have hC35 : Kd.F (Kd.int .u8) _ _ Ao21 x0_1.length x0_1 := (Kd.V_at (base := w.heap.size) HO_0.out).2.2
                 have hcut35 := cut_from (P := Tryd.prog) 22 5 .i64 Tryd.underlying22 hi035 1 hsz35 Ao21 x0_1.length co21 24 (by omega) q35
                 have hr35 := Kd.F_cut (m := (24 : Int).toNat) (c := co21) hC35 (by omega) hroom35
                 obtain ⟨A35, hA35⟩ : ∃ A1, A1 = (if co21 = (24 : Int).toNat then Ao21 else (Ao21 : Option Addr).map (·.add ((24 : Int).toNat * 1))) := ⟨_, rfl⟩
                 obtain ⟨c35, hc35⟩ : ∃ c1, c1 = co21 - (24 : Int).toNat := ⟨_, rfl⟩
                 have hy35 : y175.length = x0_1.length - (24 : Int).toNat := (by rw [Ny175.out, List.length_drop] <;> omega)
                 rw [show (x0_1).drop (24 : Int).toNat = y175 from Ny175.out.symm] at hr35
                 replace hr35 : Kd.F (Kd.int .u8) _ _ A35 y175.length y175 := (by rw [hA35]; exact hr35)
                 rw [← hy35, ← hA35, ← hc35] at hcut35
                 have HO179 := Aside0.mk (show Kd.V (Kd.int .u8) 5 _ w.heap.size _ (.slice A35 y175.length c35) y175 from Kd.V_mk (by rw [hy35, hc35]; exact Nat.sub_le_sub_right hroom35 _) hr35)
                 have HC179 := Aside0.mk (show y175.length ≤ c35 from by rw [hy35, hc35]; exact Nat.sub_le_sub_right hroom35 _)
                 clear hr35 hC35 hroom35 hi035 hsz35 hc35
                 have KY35 := Aside0.mk hy35
                 have KA35 := Aside0.mk hA35
                 clear hy35 hA35
                 replace q35 := eq_true q35
                 refine start_ (n := 10) (S := fun w' => True) (ds := []) #[false, false, false, false, false, false, false, false, false, false] (by kernel_rfl) rfl rfl trivial (fun hHeld => ?_); refine with_tabW head_Parts.tab12 head_Parts.bits12 (fun HT_ HW_ => ?_)
                 generalize wc.drew = w34 at HO_0 HO_8 HB HO179 hHeld ⊢
                 refine pure_ (i := 0) (N := some 59) (v := ?_) (a' := ?_) #[true, false, false, false, false, false, false, false, false, false] rfl rfl (any_of HT_.out (by kernel_rfl)) (fun _ _ _ h => h) (Or.inl ⟨by rfl, ?_⟩) ?_ ?_
                 rotate_left
                 ·intro w'
                  go_simp
                  with_reducible rfl
                 rotate_left
                 ·simp only [Act.put, List.setIfInBounds_toArray, List.set_cons_zero, List.set_cons_succ, i64_w, i32_w]
                  rfl
                 refine pure_ (i := 1) (N := some 60) (v := ?_) (a' := ?_) #[true, true, false, false, false, false, false, false, false, false] rfl rfl (any_of HT_.out (by kernel_rfl)) (fun _ _ _ h => h) (Or.inl ⟨by rfl, ?_⟩) ?_ ?_
                 rotate_left
                 ·intro w'
                  go_simp
                  with_reducible rfl
                 rotate_left
                 ·simp only [Act.put, List.setIfInBounds_toArray, List.set_cons_zero, List.set_cons_succ, i64_w, i32_w]
                  rfl
                 refine pure_ (i := 2) (N := some 61) (v := ?_) (a' := ?_) #[true, true, true, false, false, false, false, false, false, false] rfl rfl (any_of HT_.out (by kernel_rfl)) (fun _ _ _ h => h) (Or.inl ⟨by rfl, ?_⟩) ?_ ?_
                 rotate_left
                 ·intro w'
                  go_simp
                  with_reducible rfl
                 rotate_left
                 ·simp only [Act.put, List.setIfInBounds_toArray, List.set_cons_zero, List.set_cons_succ, i64_w, i32_w]
                  rfl
                 refine pure_ (i := 3) (N := some 62) (v := ?_) (a' := ?_) #[true, true, true, true, false, false, false, false, false, false] rfl rfl (any_of HT_.out (by kernel_rfl)) (fun _ _ _ h => h) (Or.inl ⟨by rfl, ?_⟩) ?_ ?_
                 rotate_left
                 ·intro w'
                  go_simp
                  with_reducible rfl
                 rotate_left
                 ·simp only [Act.put, List.setIfInBounds_toArray, List.set_cons_zero, List.set_cons_succ, i64_w, i32_w]
                  rfl
                 refine pure_ (i := 6) (N := some 65) (v := ?_) (a' := ?_) #[true, true, true, true, false, false, true, false, false, false] rfl rfl (any_of HT_.out (by kernel_rfl)) (fun _ _ _ h => h) (Or.inl ⟨by rfl, ?_⟩) ?_ ?_
                 rotate_left
                 ·intro w'
                  go_simp
                  with_reducible rfl
                 rotate_left
                 ·simp only [Act.put, List.setIfInBounds_toArray, List.set_cons_zero, List.set_cons_succ, i64_w, i32_w]
                  rfl
                 refine pure_ (i := 7) (N := some 66) (v := ?_) (a' := ?_) #[true, true, true, true, false, false, true, true, false, false] rfl rfl (any_of HT_.out (by kernel_rfl)) (fun _ _ _ h => h) (Or.inl ⟨by rfl, ?_⟩) ?_ ?_
                 rotate_left
                 ·intro w'
                  go_simp
                  with_reducible rfl
                 rotate_left
                 ·simp only [Act.put, List.setIfInBounds_toArray, List.set_cons_zero, List.set_cons_succ, i64_w, i32_w]
                  rfl
                 refine one_ (i := 4) (N := some 63) #[true, true, true, true, true, false, true, true, false, false] rfl rfl (one_of HT_.out (by kernel_rfl)) (by decide) (fun K hK => ?_)
                 refine value_ (w1 := ?_) (v := ?_) (by rfl) rfl ?_ ?_
                 rotate_left 2
                 ·go_simp
                  constructor
                  ·rfl
                  ·rfl
                 refine hK.out _ _ trivial (fun hHeld => ?_)
                 clear hK K
                 refine norm_ (a' := ?_) ?_ ?_
                 rotate_left
                 ·show Act.put _ (some 63) _ = _
                  simp only [Act.put, List.setIfInBounds_toArray, List.set_cons_zero, List.set_cons_succ, i64_w, i32_w]
                  rfl
                 refine one_ (i := 5) (N := some 64) #[true, true, true, true, true, true, true, true, false, false] rfl rfl (one_of HT_.out (by kernel_rfl)) (by decide) (fun K hK => ?_)
                 refine Kd.R_append_step k49 (w0 := w) w.heap.size (by rfl) (.tmp 59) (.tmp 63) 23 49 (.agg #[(.int .i64 0), (.int .i64 0)]) 16 rfl Tryd.underlying23 info49 rfl (by decide) (by omega) u8 x8_1 (⟨t163, t170⟩ : S49) [.int .i64 t163, .int .i64 t170] (fun k_ => (w.heap.size ≤ k_)) (fun _ => False) rfl rfl ?aP (fun _ hk => hk.elim) ?aF ?aO ?aB ?aS ?aL ?_
                 (case aP => exact k49_mkM _ _ _ (⟨t163, t170⟩ : S49))
                 (case aB => exact (by repeat (first | (with_reducible first | exact HB.out | apply below_alloc | apply pw_below_drewN | apply below_drew1) | exact HB.out)))
                 (case aF => exact (fun k_ hk => (Nat.le_trans (below_size (by repeat (first | (with_reducible first | exact HB.out | apply below_alloc | apply pw_below_drewN | apply below_drew1) | exact HB.out))) hk)))
                 (case aO => exact (by (with_reducible repeat (first | apply Kd.R_alloc | apply Kd.R_drewN | apply Kd.R_drew)); exact HO_8.out))
                 (case aS => exact (below_size (by repeat (first | (with_reducible first | exact HB.out | apply below_alloc | apply pw_below_drewN | apply below_drew1) | exact HB.out))))
                 (case aL => have := LMc32.out; omega)
                 intro v173 w36 ho hb hg hat
                 rw [← Ny172.out] at ho
                 have n0_ := Aside0.mk (Kd.V_afterv (ok := (fun k_ => (P0_ k_ ∨ w.heap.size ≤ k_))) (by (with_reducible repeat (first | apply Kd.V_alloc | apply Kd.V_drewN | apply Kd.V_drew)); exact HO_0.out) hg hat)
                 have n1_ := Aside0.mk (Kd.V_afterv (ok := (fun k_ => (P0_ k_ ∨ w.heap.size ≤ k_))) (by (with_reducible repeat (first | apply Kd.V_alloc | apply Kd.V_drewN | apply Kd.V_drew)); exact HO179.out) hg hat)
                 have n2_ := Aside0.mk (hb)
                 have n3_ := Aside0.mk (ho)
                 clear HO_0
                 clear HO179
                 clear HB
                 clear HO_8
                 have HO_0 := n0_
                 have HO179 := n1_
                 have HB := n2_
                 have HO174 := n3_
                 clear n0_ n1_ n2_ n3_
                 clear ho hb hg hat
                 refine hK.out _ _ trivial (fun hHeld => ?_)
                 clear hK K
                 refine norm_ (a' := ?_) ?_ ?_
                 rotate_left
                 ·show Act.put _ (some 64) _ = _
                  simp only [Act.put, List.setIfInBounds_toArray, List.set_cons_zero, List.set_cons_succ, i64_w, i32_w]
                  rfl
                 refine pure_ (i := 8) (N := some 8) (v := ?_) (a' := ?_) #[true, true, true, true, true, true, true, true, true, false] rfl rfl (any_of HT_.out (by kernel_rfl)) (fun _ _ _ h => h) (Or.inl ⟨by rfl, ?_⟩) ?_ ?_
                 rotate_left
                 ·intro w'
                  go_simp
                  with_reducible rfl
                 rotate_left
                 ·simp only [Act.put, List.setIfInBounds_toArray, List.set_cons_zero, List.set_cons_succ, i64_w, i32_w]
                  rfl
                 refine pure_ (i := 9) (N := some 0) (v := ?_) (a' := ?_) #[true, true, true, true, true, true, true, true, true, true] rfl rfl (any_of HT_.out (by kernel_rfl)) (fun _ _ _ h => h) (Or.inl ⟨by rfl, ?_⟩) ?_ ?_
                 rotate_left
                 ·intro w'
                  go_simp
                  with_reducible rfl
                 rotate_left
                 ·simp only [Act.put, List.setIfInBounds_toArray, List.set_cons_zero, List.set_cons_succ, i64_w, i32_w]
                  rfl
                 refine done_ (done_of HT_.out (by kernel_rfl)) ?_
                 try go_wp2
                 go_roundg kj19
                 case measure => have := HK1.out; have := HJ19.out; omega
                 case rel => exact ⟨(y175), (y172), (wrap64 (x24_1 + 1)), (by first | rfl | (simp; done) | (simp [*]; done)), H', ⟨by have := HK1.out; have := HJ19.out; omega⟩, ⟨by (with_reducible repeat (first | apply Kd.V_alloc | apply Kd.V_drewN | apply Kd.V_drew)); exact HO179.out⟩, ⟨by (with_reducible repeat (first | apply Kd.R_alloc | apply Kd.R_drewN | apply Kd.R_drew)); exact HO174.out⟩, ⟨by repeat (first | (with_reducible first | exact HB.out | apply below_alloc | apply pw_below_drewN | apply below_drew1) | exact HB.out)⟩⟩
                ·rw [if_neg c33] at H
                 exact absurd H (by simp)
               ·rw [if_neg c32] at H
                exact absurd H (by simp)
             ·rw [if_neg c30] at H
              have c30b0 : (t163 == 0) = false := beq_eq_false_iff_ne.mpr c30
              have c30b1 : (t163 != 0) = true := bne_iff_ne.mpr c30
              by_cases c37 : x8_1.length < 8796093022208
              ·rw [if_pos c37] at H
               have LMc37 := Aside0.mk c37
               clear c37
               obtain ⟨y180, hy180⟩ : ∃ y_ : List (S49), y_ = (x8_1 ++ [(⟨t163, t170⟩ : S49)]) := ⟨_, rfl⟩
               replace H : (if 24 ≤ (x0_1.length : Int) then (head_Parts.l0 kj19 (x0_1.drop 24) y180 ji10 (wrap64 (x24_1 + 1))) else (none)) = some (r1, r2) := by first | (rw [hy180]; with_reducible exact H) | (have H2_ := (Option.bind_some _ _).symm.trans H; rw [hy180]; with_reducible exact H2_) | (have H2_ := (Option.bind_some _ _).symm.trans H; with_reducible exact H2_) | with_reducible exact H | (rw [hy180]; exact H) | exact H
               have Ny180 := Aside0.mk hy180
               clear hy180
               by_cases c38 : 24 ≤ (x0_1.length : Int)
               ·rw [if_pos c38] at H
                have c38b0 := eq_true c38
                have c38b1 : decide (24 ≤ (x0_1.length : Int)) = true := decide_eq_true c38
                clear c38
                obtain ⟨y183, hy183⟩ : ∃ y_ : List Int, y_ = (x0_1.drop 24) := ⟨_, rfl⟩
                replace H : (head_Parts.l0 kj19 y183 y180 ji10 (wrap64 (x24_1 + 1))) = some (r1, r2) := by first | (rw [hy183]; with_reducible exact H) | (have H2_ := (Option.bind_some _ _).symm.trans H; rw [hy183]; with_reducible exact H2_) | (have H2_ := (Option.bind_some _ _).symm.trans H; with_reducible exact H2_) | with_reducible exact H | (rw [hy183]; exact H) | exact H
                have Ny183 := Aside0.mk hy183
                clear hy183
                have H' := Aside0.mk H
                clear H
                try go_wp2
                have n0_ := Aside0.mk (Kd.V_drew HO_0.out)
                have n1_ := Aside0.mk (Kd.R_drew HO_8.out)
                have n2_ := Aside0.mk (below_drew1 HB.out)
                clear HO_0
                clear HO_8
                clear HB
                have HO_0 := n0_
                have HO_8 := n1_
                have HB := n2_
                clear n0_ n1_ n2_
                have q40 : (24 : Int) ≤ ((x0_1.length : Int) : Int) := of_decide_eq_true (by first | (with_reducible assumption) | assumption)
                obtain ⟨i040, hi040, _, hsz40, _⟩ := info_parts info5
                have hroom40 : x0_1.length ≤ co21 := (Kd.V_reads' HO_0.out).2.1
                have hC40 : Kd.F (Kd.int .u8) _ _ Ao21 x0_1.length x0_1 := (Kd.V_at (base := w.heap.size) HO_0.out).2.2
                have hcut40 := cut_from (P := Tryd.prog) 22 5 .i64 Tryd.underlying22 hi040 1 hsz40 Ao21 x0_1.length co21 24 (by omega) q40
                have hr40 := Kd.F_cut (m := (24 : Int).toNat) (c := co21) hC40 (by omega) hroom40
                obtain ⟨A40, hA40⟩ : ∃ A1, A1 = (if co21 = (24 : Int).toNat then Ao21 else (Ao21 : Option Addr).map (·.add ((24 : Int).toNat * 1))) := ⟨_, rfl⟩
                obtain ⟨c40, hc40⟩ : ∃ c1, c1 = co21 - (24 : Int).toNat := ⟨_, rfl⟩
                have hy40 : y183.length = x0_1.length - (24 : Int).toNat := (by rw [Ny183.out, List.length_drop] <;> omega)
                rw [show (x0_1).drop (24 : Int).toNat = y183 from Ny183.out.symm] at hr40
                replace hr40 : Kd.F (Kd.int .u8) _ _ A40 y183.length y183 := (by rw [hA40]; exact hr40)
                rw [← hy40, ← hA40, ← hc40] at hcut40
                have HO187 := Aside0.mk (show Kd.V (Kd.int .u8) 5 _ w.heap.size _ (.slice A40 y183.length c40) y183 from Kd.V_mk (by rw [hy40, hc40]; exact Nat.sub_le_sub_right hroom40 _) hr40)
                have HC187 := Aside0.mk (show y183.length ≤ c40 from by rw [hy40, hc40]; exact Nat.sub_le_sub_right hroom40 _)
                clear hr40 hC40 hroom40 hi040 hsz40 hc40
                have KY40 := Aside0.mk hy40
                have KA40 := Aside0.mk hA40
                clear hy40 hA40
                replace q40 := eq_true q40
                refine start_ (n := 10) (S := fun w' => True) (ds := []) #[false, false, false, false, false, false, false, false, false, false] (by kernel_rfl) rfl rfl trivial (fun hHeld => ?_); refine with_tabW head_Parts.tab12 head_Parts.bits12 (fun HT_ HW_ => ?_)
                generalize wc.drew = w39 at HO_0 HO_8 HB HO187 hHeld ⊢
                refine pure_ (i := 0) (N := some 59) (v := ?_) (a' := ?_) #[true, false, false, false, false, false, false, false, false, false] rfl rfl (any_of HT_.out (by kernel_rfl)) (fun _ _ _ h => h) (Or.inl ⟨by rfl, ?_⟩) ?_ ?_
                rotate_left
                ·intro w'
                 go_simp
                 with_reducible rfl
                rotate_left
                ·simp only [Act.put, List.setIfInBounds_toArray, List.set_cons_zero, List.set_cons_succ, i64_w, i32_w]
                 rfl
                refine pure_ (i := 1) (N := some 60) (v := ?_) (a' := ?_) #[true, true, false, false, false, false, false, false, false, false] rfl rfl (any_of HT_.out (by kernel_rfl)) (fun _ _ _ h => h) (Or.inl ⟨by rfl, ?_⟩) ?_ ?_
                rotate_left
                ·intro w'
                 go_simp
                 with_reducible rfl
                rotate_left
                ·simp only [Act.put, List.setIfInBounds_toArray, List.set_cons_zero, List.set_cons_succ, i64_w, i32_w]
                 rfl
                refine pure_ (i := 2) (N := some 61) (v := ?_) (a' := ?_) #[true, true, true, false, false, false, false, false, false, false] rfl rfl (any_of HT_.out (by kernel_rfl)) (fun _ _ _ h => h) (Or.inl ⟨by rfl, ?_⟩) ?_ ?_
                rotate_left
                ·intro w'
                 go_simp
                 with_reducible rfl
                rotate_left
                ·simp only [Act.put, List.setIfInBounds_toArray, List.set_cons_zero, List.set_cons_succ, i64_w, i32_w]
                 rfl
                refine pure_ (i := 3) (N := some 62) (v := ?_) (a' := ?_) #[true, true, true, true, false, false, false, false, false, false] rfl rfl (any_of HT_.out (by kernel_rfl)) (fun _ _ _ h => h) (Or.inl ⟨by rfl, ?_⟩) ?_ ?_
                rotate_left
                ·intro w'
                 go_simp
                 with_reducible rfl
                rotate_left
                ·simp only [Act.put, List.setIfInBounds_toArray, List.set_cons_zero, List.set_cons_succ, i64_w, i32_w]
                 rfl
                refine pure_ (i := 6) (N := some 65) (v := ?_) (a' := ?_) #[true, true, true, true, false, false, true, false, false, false] rfl rfl (any_of HT_.out (by kernel_rfl)) (fun _ _ _ h => h) (Or.inl ⟨by rfl, ?_⟩) ?_ ?_
                rotate_left
                ·intro w'
                 go_simp
                 with_reducible rfl
                rotate_left
                ·simp only [Act.put, List.setIfInBounds_toArray, List.set_cons_zero, List.set_cons_succ, i64_w, i32_w]
                 rfl
                refine pure_ (i := 7) (N := some 66) (v := ?_) (a' := ?_) #[true, true, true, true, false, false, true, true, false, false] rfl rfl (any_of HT_.out (by kernel_rfl)) (fun _ _ _ h => h) (Or.inl ⟨by rfl, ?_⟩) ?_ ?_
                rotate_left
                ·intro w'
                 go_simp
                 with_reducible rfl
                rotate_left
                ·simp only [Act.put, List.setIfInBounds_toArray, List.set_cons_zero, List.set_cons_succ, i64_w, i32_w]
                 rfl
                refine one_ (i := 4) (N := some 63) #[true, true, true, true, true, false, true, true, false, false] rfl rfl (one_of HT_.out (by kernel_rfl)) (by decide) (fun K hK => ?_)
                refine value_ (w1 := ?_) (v := ?_) (by rfl) rfl ?_ ?_
                rotate_left 2
                ·go_simp
                 constructor
                 ·rfl
                 ·rfl
                refine hK.out _ _ trivial (fun hHeld => ?_)
                clear hK K
                refine norm_ (a' := ?_) ?_ ?_
                rotate_left
                ·show Act.put _ (some 63) _ = _
                 simp only [Act.put, List.setIfInBounds_toArray, List.set_cons_zero, List.set_cons_succ, i64_w, i32_w]
                 rfl
                refine one_ (i := 5) (N := some 64) #[true, true, true, true, true, true, true, true, false, false] rfl rfl (one_of HT_.out (by kernel_rfl)) (by decide) (fun K hK => ?_)
                refine Kd.R_append_step k49 (w0 := w) w.heap.size (by rfl) (.tmp 59) (.tmp 63) 23 49 (.agg #[(.int .i64 0), (.int .i64 0)]) 16 rfl Tryd.underlying23 info49 rfl (by decide) (by omega) u8 x8_1 (⟨t163, t170⟩ : S49) [.int .i64 t163, .int .i64 t170] (fun k_ => (w.heap.size ≤ k_)) (fun _ => False) rfl rfl ?aP (fun _ hk => hk.elim) ?aF ?aO ?aB ?aS ?aL ?_
                (case aP => exact k49_mkM _ _ _ (⟨t163, t170⟩ : S49))
                (case aB => exact (by repeat (first | (with_reducible first | exact HB.out | apply below_alloc | apply pw_below_drewN | apply below_drew1) | exact HB.out)))
                (case aF => exact (fun k_ hk => (Nat.le_trans (below_size (by repeat (first | (with_reducible first | exact HB.out | apply below_alloc | apply pw_below_drewN | apply below_drew1) | exact HB.out))) hk)))
                (case aO => exact (by (with_reducible repeat (first | apply Kd.R_alloc | apply Kd.R_drewN | apply Kd.R_drew)); exact HO_8.out))
                (case aS => exact (below_size (by repeat (first | (with_reducible first | exact HB.out | apply below_alloc | apply pw_below_drewN | apply below_drew1) | exact HB.out))))
                (case aL => have := LMc37.out; omega)
                intro v181 w41 ho hb hg hat
                rw [← Ny180.out] at ho
                have n0_ := Aside0.mk (Kd.V_afterv (ok := (fun k_ => (P0_ k_ ∨ w.heap.size ≤ k_))) (by (with_reducible repeat (first | apply Kd.V_alloc | apply Kd.V_drewN | apply Kd.V_drew)); exact HO_0.out) hg hat)
                have n1_ := Aside0.mk (Kd.V_afterv (ok := (fun k_ => (P0_ k_ ∨ w.heap.size ≤ k_))) (by (with_reducible repeat (first | apply Kd.V_alloc | apply Kd.V_drewN | apply Kd.V_drew)); exact HO187.out) hg hat)
                have n2_ := Aside0.mk (hb)
                have n3_ := Aside0.mk (ho)
                clear HO_0
                clear HO187
                clear HB
                clear HO_8
                have HO_0 := n0_
                have HO187 := n1_
                have HB := n2_
                have HO182 := n3_
                clear n0_ n1_ n2_ n3_
                clear ho hb hg hat
                refine hK.out _ _ trivial (fun hHeld => ?_)
                clear hK K
                refine norm_ (a' := ?_) ?_ ?_
                rotate_left
                ·show Act.put _ (some 64) _ = _
                 simp only [Act.put, List.setIfInBounds_toArray, List.set_cons_zero, List.set_cons_succ, i64_w, i32_w]
                 rfl
                refine pure_ (i := 8) (N := some 8) (v := ?_) (a' := ?_) #[true, true, true, true, true, true, true, true, true, false] rfl rfl (any_of HT_.out (by kernel_rfl)) (fun _ _ _ h => h) (Or.inl ⟨by rfl, ?_⟩) ?_ ?_
                rotate_left
                ·intro w'
                 go_simp
                 with_reducible rfl
                rotate_left
                ·simp only [Act.put, List.setIfInBounds_toArray, List.set_cons_zero, List.set_cons_succ, i64_w, i32_w]
                 rfl
                refine pure_ (i := 9) (N := some 0) (v := ?_) (a' := ?_) #[true, true, true, true, true, true, true, true, true, true] rfl rfl (any_of HT_.out (by kernel_rfl)) (fun _ _ _ h => h) (Or.inl ⟨by rfl, ?_⟩) ?_ ?_
                rotate_left
                ·intro w'
                 go_simp
                 with_reducible rfl
                rotate_left
                ·simp only [Act.put, List.setIfInBounds_toArray, List.set_cons_zero, List.set_cons_succ, i64_w, i32_w]
                 rfl
                refine done_ (done_of HT_.out (by kernel_rfl)) ?_
                try go_wp2
                go_roundg kj19
                case measure => have := HK1.out; have := HJ19.out; omega
                case rel => exact ⟨(y183), (y180), (wrap64 (x24_1 + 1)), (by first | rfl | (simp; done) | (simp [*]; done)), H', ⟨by have := HK1.out; have := HJ19.out; omega⟩, ⟨by (with_reducible repeat (first | apply Kd.V_alloc | apply Kd.V_drewN | apply Kd.V_drew)); exact HO187.out⟩, ⟨by (with_reducible repeat (first | apply Kd.R_alloc | apply Kd.R_drewN | apply Kd.R_drew)); exact HO182.out⟩, ⟨by repeat (first | (with_reducible first | exact HB.out | apply below_alloc | apply pw_below_drewN | apply below_drew1) | exact HB.out)⟩⟩
               ·rw [if_neg c38] at H
                exact absurd H (by simp)
              ·rw [if_neg c37] at H
               exact absurd H (by simp)
         ·rw [if_neg c18] at H
          exact absurd H (by simp)
        ·rw [if_neg c17] at H
         exact absurd H (by simp)
       ·rw [if_neg c15] at H
        exact absurd H (by simp)
     ·rw [if_neg c12] at H
      have c12b0 : decide (x24_1 < ji10) = false := decide_eq_false c12
      clear c12
      simp only [Option.some.injEq, Prod.mk.injEq] at H
      obtain ⟨rfl, rfl⟩ := H
      go_wp2
      go_ret2
      exact ⟨_, by first | rfl | (simp [errW_none, errW_some] <;> rfl) | (simp only [← hji4, ← hji5, ← hji6, ← hji9, ← hji10]; first | rfl | (simp [errW_none, errW_some] <;> rfl)) | (simp [*, errW_none, errW_some] <;> rfl), by (with_reducible repeat (first | apply Kd.R_alloc | apply Kd.R_drewN | apply Kd.R_drew)); exact HO_8.out, by repeat (first | (with_reducible first | exact HB.out | apply below_alloc | apply pw_below_drewN | apply below_drew1) | exact HB.out)⟩
  ·rw [if_neg c8] at H
   exact absurd H (by simp)
 ·rw [if_neg c7] at H
  exact absurd H (by simp)

/-! ### sum_Told: function 60 -/
def sum_Told.f (l0 : List Int) : Option (Int × Bool) := if (l0.length : Int) = 512 then (if 148 ≤ 156 then (if 156 ≤ (l0.length : Int) then ((num_Octal.f ((l0.take 156).drop 148)).bind fun bt189 => (some (bt189.1, bt189.2))) else (none)) else (none)) else (some (0, false))
set_option maxHeartbeats 8000000 in
set_option maxRecDepth 100000 in
theorem sum_Told.calls (A0 : Option Addr) (c0 : Nat) (l0 : List Int) (r1 : Int) (r2 : Bool) (w : World) (hr0 : Kd.C (Kd.int .u8) w A0 l0.length l0) (hc0 : l0.length ≤ c0) (h : sum_Told.f l0 = some (r1, r2)) :
  Calls Tryd.prog 60 #[.slice A0 l0.length c0] w fun e w' => e = .returned (.tuple #[.int .i64 r1, .bool r2]) ∧ Below w.heap.size w w' := by
 have HR0 := Aside0.mk hr0
 have HC0 := Aside0.mk hc0
 clear hr0 hc0
 have HB := Aside0.mk (Below.refl w.heap.size w)
 have H : (if (l0.length : Int) = 512 then (if 148 ≤ 156 then (if 156 ≤ (l0.length : Int) then ((num_Octal.f ((l0.take 156).drop 148)).bind fun bt189 => (some (bt189.1, bt189.2))) else (none)) else (none)) else (some (0, false))) = some (r1, r2) := h
 clear h
 by_cases c2 : (l0.length : Int) = 512
 ·rw [if_pos c2] at H
  have c2b0 : ((l0.length : Int) == 512) = true := beq_iff_eq.mpr c2
  have c2b1 : ((l0.length : Int) != 512) = false := bne_eq_false_iff_eq.mpr c2
  clear c2
  by_cases c3 : 148 ≤ 156
  ·rw [if_pos c3] at H
   have c3b0 := eq_true c3
   have c3b1 : decide (148 ≤ 156) = true := decide_eq_true c3
   clear c3
   by_cases c4 : 156 ≤ (l0.length : Int)
   ·rw [if_pos c4] at H
    have c4b0 := eq_true c4
    have c4b1 : decide (156 ≤ (l0.length : Int)) = true := decide_eq_true c4
    clear c4
    replace H := Option.bind_eq_some_iff.mp H
    obtain ⟨⟨t189, t190⟩, A50, H⟩ := H
    replace H : (some (t189, t190)) = some (r1, r2) := H
    have A5 := Aside0.mk A50
    clear A50
    simp only [Option.some.injEq, Prod.mk.injEq] at H
    obtain ⟨rfl, rfl⟩ := H
    obtain ⟨i06, hi06, _, hsz6, _⟩ := info_parts info5
    obtain ⟨A6, hcut6, hA6, hC6⟩ := print_mid_of (P := Tryd.prog) (Value.int .u8) 0 22 5 .i64 .i64 Tryd.underlying22 hi06 hsz6 A0 c0 l0 148 156 (by omega) (by first | omega | exact of_decide_eq_true (by first | (with_reducible assumption) | assumption)) (of_decide_eq_true (by first | (with_reducible assumption) | assumption)) HC0.out
    have HR188 := Aside0.mk (Kd.C_of_reads (h1 := fun _ => rfl) (hA6 _ (Kd.reads_of_C HR0.out)))
    have HC188 := Aside0.mk hC6
    clear hA6 hC6 hi06 hsz6
    go_enter Tryd.func60, Tryd.ntmps60
    go_wp2_with (first | ((with_reducible refine gate_callee (f := 63) rfl ?_); refine goesL_ (some 9) rfl rfl Tryd.func63 (by kernel_rfl) rfl #[.slice A6 ((l0.take 156).drop 148).length (c0 - 148)] rfl (by (try simp only [List.map_toArray, List.map_cons, List.map_nil]); first | done | (rw [show ((l0.take 156).drop 148).length = (156 - 148) from (by rw [List.length_drop, List.length_take]; have h_ : (156 : Int) ≤ (l0.length : Int) := of_decide_eq_true (by first | (with_reducible assumption) | assumption); omega)] <;> rfl) | rfl | (simp only [List.length_drop, List.length_take]; rfl)) ?_; (with_reducible refine (num_Octal.calls _ _ ((l0.take 156).drop 148) t189 t190 _ ?side1 ?side2 A5.out).mono ?_); (case side1 => repeat (first | exact HR188.out | (with_reducible refine Kd.C_alloc ?_ _) | (with_reducible refine Kd.C_drewN ?_ _) | (with_reducible refine Kd.C_drew ?_))); (case side2 => exact HC188.out); rintro e w7 ⟨rfl, hb⟩; refine ⟨_, rfl, ?_⟩; have n0_ := Aside0.mk (below_step (by repeat (first | (with_reducible first | exact HB.out | apply below_alloc | apply pw_below_drewN | apply below_drew1) | exact HB.out)) hb); clear HB; have HB := n0_; clear n0_; (try clear hb); (try clear hb2); (try clear hk); (try clear hi)))
    go_ret2
    exact ⟨by first | rfl | (simp [errW_none, errW_some] <;> rfl) | (simp [*, errW_none, errW_some] <;> rfl), by repeat (first | (with_reducible first | exact HB.out | apply below_alloc | apply pw_below_drewN | apply below_drew1) | exact HB.out)⟩
   ·rw [if_neg c4] at H
    exact absurd H (by simp)
  ·rw [if_neg c3] at H
   exact absurd H (by simp)
 ·rw [if_neg c2] at H
  have c2b0 : ((l0.length : Int) == 512) = false := beq_eq_false_iff_ne.mpr c2
  have c2b1 : ((l0.length : Int) != 512) = true := bne_iff_ne.mpr c2
  simp only [Option.some.injEq, Prod.mk.injEq] at H
  obtain ⟨rfl, rfl⟩ := H
  go_enter Tryd.func60, Tryd.ntmps60
  go_wp2
  go_ret2
  exact ⟨by first | rfl | (simp [errW_none, errW_some] <;> rfl) | (simp [*, errW_none, errW_some] <;> rfl), by repeat (first | (with_reducible first | exact HB.out | apply below_alloc | apply pw_below_drewN | apply below_drew1) | exact HB.out)⟩

/-! ### sum_lit74: function 74 -/
def sum_lit74.f (a0 : Int) : Option (Int) := some (wrap64 (IntKind.i8.wrap (a0)))
set_option maxHeartbeats 8000000 in
set_option maxRecDepth 100000 in
theorem sum_lit74.calls (a0 : Int) (r : Int) (w : World) (h : sum_lit74.f a0 = some r) :
  Calls Tryd.prog 74 #[.int .u8 a0] w fun e w' => e = .returned (.int .i64 r) ∧ Drawn0 w w' := by
 have H : (some (wrap64 (IntKind.i8.wrap (a0)))) = some r := h
 clear h
 obtain rfl := Option.some.inj H
 go_enter Tryd.func74, Tryd.ntmps74
 go_wp2
 go_ret
 exact ⟨by first | rfl | (simp; done) | (simp [*]; done), by repeat (first | exact Drawn0.refl _ | apply Drawn0.step)⟩

end Go.Proofs.YtdeolcgabkkocaaDoor.P
