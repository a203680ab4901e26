/- The reference's sums and the octal numbers: what they come to. No conditions. -/
import Derived.Test.YtdeolcgabkkocaaDoorHSealP
import Derived.Test.YtdeolcgabkkocaaDoorHRefS
namespace Go.Proofs.YtdeolcgabkkocaaDoor.P
open Go.RowKit Go.Shelf Go.Lib Go.Proofs.YtdeolcgabkkocaaDoorW.PrintWords Go.Proofs.YtdeolcgabkkocaaDoorW.PrintLast Go.Proofs.YtdeolcgabkkocaaDoorW.PrintMore
set_option linter.unusedVariables false
set_option linter.unusedSimpArgs false

theorem refU (l : List Int) (hb : Bytes l) (hl : l.length ≤ 100000) : ∀ (d : Nat) (i : Nat) (n : Int), l.length - i = d → i ≤ l.length → 0 ≤ n → n ≤ 255 * i →
    Ev (fun k => mudlarkref05_Unsigned.l0 k l n (i : Int)) (n + sU i (l.drop i))
  | 0, i, n, hd, hi, h0, h1 => by
    have e : i = l.length := by omega
    subst e
    refine Ev.step (f := fun _ => some n) (fun k => by simp only [mudlarkref05_Unsigned.l0]; rw [if_neg (by omega)]) ?_
    rw [List.drop_length]
    simpa [sU] using Ev.now n
  | d + 1, i, n, hd, hi, h0, h1 => by
    have hlt : i < l.length := by omega
    have hxr := hb l[i] (List.getElem_mem _)
    have er : rd l (i : Int) = l[i] := rd_at l i hlt
    have ed : l.drop i = l[i] :: l.drop (i + 1) := List.drop_eq_getElem_cons hlt
    have ew := next_i i (by omega)
    obtain ⟨c, hc⟩ : ∃ c, c = (if 148 ≤ i ∧ i < 156 then 32 else l[i]) := ⟨_, rfl⟩
    have hcb : 0 ≤ c ∧ c ≤ 255 := by rw [hc]; split <;> omega
    have ih := refU l hb hl d (i + 1) (n + c) (by omega) (by omega) (by omega) (by push_cast; omega)
    refine Ev.step (f := fun k => mudlarkref05_Unsigned.l0 k l (n + c) ((i + 1 : Nat) : Int)) (fun k => ?_) ?_
    · simp only [mudlarkref05_Unsigned.l0]
      rw [if_pos (by omega)]
      by_cases h2 : 148 ≤ i ∧ i < 156
      · rw [if_pos h2] at hc
        subst hc
        rw [if_pos (by omega), if_pos (by omega), ew, wrap64_id (n + 32) (by omega) (by omega)]
      · rw [if_neg h2] at hc
        rw [← er] at hc
        subst hc
        rw [ew, wrap64_id (rd l (i : Int)) (by omega) (by omega), wrap64_id (n + rd l (i : Int)) (by omega) (by omega)]
        by_cases h3 : (i : Int) ≥ 148
        · rw [if_pos h3, if_neg (by omega), if_pos (by omega)]
        · rw [if_neg h3, if_pos (by omega)]
    · rw [ed]
      simp only [sU]
      rw [← hc, ← Int.add_assoc]
      exact ih
theorem RefUnsigned_eq (l : List Int) (hb : Bytes l) (hl : l.length ≤ 100000) : Ev (fun k => mudlarkref05_Unsigned.f k l) (sU 0 l) := by
  have h := refU l hb hl l.length 0 0 (by omega) (by omega) (by omega) (by omega)
  rw [List.drop_zero, Int.zero_add] at h
  exact h
theorem refS (l : List Int) (hb : Bytes l) (hl : l.length ≤ 100000) : ∀ (d : Nat) (i : Nat) (n : Int), l.length - i = d → i ≤ l.length → -256 * i ≤ n → n ≤ 25600000 →
    Ev (fun k => mudlarkref05_Signed.l0 k l n (i : Int)) (n + (sS i (l.drop i) - sU i (l.drop i)))
  | 0, i, n, hd, hi, h0, h1 => by
    have e : i = l.length := by omega
    subst e
    refine Ev.step (f := fun _ => some n) (fun k => by simp only [mudlarkref05_Signed.l0]; rw [if_neg (by omega)]) ?_
    rw [List.drop_length]
    simpa [sU, sS] using Ev.now n
  | d + 1, i, n, hd, hi, h0, h1 => by
    have hlt : i < l.length := by omega
    have hxr := hb l[i] (List.getElem_mem _)
    have er : rd l (i : Int) = l[i] := rd_at l i hlt
    have ed : l.drop i = l[i] :: l.drop (i + 1) := List.drop_eq_getElem_cons hlt
    have ew := next_i i (by omega)
    obtain ⟨c, hc⟩ : ∃ c : Int, c = (if 148 ≤ i ∧ i < 156 then 0 else if l[i] > 127 then -256 else 0) := ⟨_, rfl⟩
    have hcb : -256 ≤ c ∧ c ≤ 0 := by
      rw [hc]
      split
      · omega
      · split <;> omega
    have ih := refS l hb hl d (i + 1) (n + c) (by omega) (by omega) (by push_cast; omega) (by omega)
    refine Ev.step (f := fun k => mudlarkref05_Signed.l0 k l (n + c) ((i + 1 : Nat) : Int)) (fun k => ?_) ?_
    · simp only [mudlarkref05_Signed.l0]
      rw [if_pos (by omega), er, ew]
      by_cases h1 : (i : Int) < 148
      · rw [if_pos h1, if_pos (by omega)]
        rw [if_neg (by omega)] at hc
        by_cases h2 : l[i] > 127
        · rw [if_pos h2] at hc ⊢
          subst hc
          rw [wrap64_id (n - 256) (by omega) (by omega)]
          rfl
        · rw [if_neg h2] at hc ⊢
          subst hc
          rw [Int.add_zero]
      · rw [if_neg h1]
        by_cases h3 : (i : Int) ≥ 156
        · rw [if_pos h3, if_pos (by omega)]
          rw [if_neg (by omega)] at hc
          by_cases h2 : l[i] > 127
          · rw [if_pos h2] at hc ⊢
            subst hc
            rw [wrap64_id (n - 256) (by omega) (by omega)]
            rfl
          · rw [if_neg h2] at hc ⊢
            subst hc
            rw [Int.add_zero]
        · rw [if_neg h3]
          rw [if_pos (by omega)] at hc
          subst hc
          rw [Int.add_zero]
    · have e2 : n + (sS i (l.drop i) - sU i (l.drop i)) = n + c + (sS (i + 1) (l.drop (i + 1)) - sU (i + 1) (l.drop (i + 1))) := by
        rw [ed]
        simp only [sU, sS]
        rw [hc]
        by_cases h2 : 148 ≤ i ∧ i < 156
        · simp only [if_pos h2]; omega
        · simp only [if_neg h2]
          split <;> omega
      rw [e2]
      exact ih
theorem RefSigned_eq (l : List Int) (hb : Bytes l) (hl : l.length ≤ 100000) : Ev (fun k => mudlarkref05_Signed.f k l) (sS 0 l) := by
  have hu := sU_bound l 0 hb
  have h := refS l hb hl l.length 0 (sU 0 l) (by omega) (by omega) (by omega) (by omega)
  rw [List.drop_zero, show sU 0 l + (sS 0 l - sU 0 l) = sS 0 l by omega] at h
  exact Ev.bind (RefUnsigned_eq l hb hl) h

/-! ### numbers of digits -/
theorem refBlank (l : List Int) (hl : l.length < 9223372036854775807) : ∀ (d i : Nat), l.length - i = d → i ≤ l.length → Ev (fun k => mudlarkref01_blank.l0 k l true (i : Int)) ((l.drop i).all blankB)
  | 0, i, hd, hi => by
    have e : i = l.length := by omega
    subst e
    refine Ev.step (f := fun _ => some true) (fun k => by simp only [mudlarkref01_blank.l0]; rw [if_neg (by omega)]) ?_
    rw [List.drop_length]
    exact Ev.now _
  | d + 1, i, hd, hi => by
    have hlt : i < l.length := by omega
    have er : rd l (i : Int) = l[i] := rd_at l i hlt
    have ed : l.drop i = l[i] :: l.drop (i + 1) := List.drop_eq_getElem_cons hlt
    have ih := refBlank l hl d (i + 1) (by omega) (by omega)
    rw [ed, List.all_cons]
    by_cases h1 : l[i] = 32
    · refine Ev.step (f := fun k => mudlarkref01_blank.l0 k l true ((i + 1 : Nat) : Int)) (fun k => ?_) (by simpa [blankB, h1] using ih)
      simp only [mudlarkref01_blank.l0]
      rw [if_pos (by omega), if_pos (by omega), er, if_pos h1, next_i i (by omega)]
    · by_cases h2 : l[i] = 0
      · refine Ev.step (f := fun k => mudlarkref01_blank.l0 k l true ((i + 1 : Nat) : Int)) (fun k => ?_) (by simpa [blankB, h2] using ih)
        simp only [mudlarkref01_blank.l0]
        rw [if_pos (by omega), if_pos (by omega), er, if_neg h1, if_pos trivial, if_pos h2, next_i i (by omega)]
      · refine Ev.step (f := fun k => some false) (fun k => ?_) (by simpa [blankB, h1, h2] using Ev.now false)
        simp only [mudlarkref01_blank.l0]
        rw [if_pos (by omega), if_pos (by omega), er, if_neg h1, if_pos trivial, if_neg h2]
theorem RefBlank_eq (l : List Int) (hl : l.length < 9223372036854775807) : Ev (fun k => mudlarkref01_blank.f k l true) (l.all blankB) := by
  have h := refBlank l hl l.length 0 (by omega) (by omega)
  rw [List.drop_zero] at h
  exact h
def octAt (x : List Int) (n : Int) : Int × Bool := if n > 4611686018427387904 then (0, false) else octRes (octLoop x n)
theorem refOther (l : List Int) (hl : l.length < 9223372036854775807) (i : Nat) (n : Int) (hi : i ≤ l.length) (h : (l.drop i).length = 0 ∨ rd (l.drop i) 0 < 48 ∨ 55 < rd (l.drop i) 0) :
    Ev (fun k => mudlarkref01_Octal.j3 k l (i : Int) n false) (octAt (l.drop i) n) := by
  unfold octAt
  rw [octLoop_other _ _ h]
  by_cases h1 : n > 4611686018427387904
  · rw [if_pos h1]
    refine Ev.step (f := fun _ => some (0, false)) (fun k => ?_) (Ev.now _)
    simp only [mudlarkref01_Octal.j3]
    rw [if_neg (by simp), if_pos h1]
  · rw [if_neg h1]
    have hb := RefBlank_eq (l.drop i) (by rw [List.length_drop]; omega)
    have hb2 : Ev (fun k => (mudlarkref01_blank.f k (l.drop i) true).bind fun t => if t = true then some (n, true) else some (0, false)) (octRes (some (n, l.drop i))) := by
      refine Ev.bind hb ?_
      simp only [octRes]
      by_cases h2 : (l.drop i).all blankB = true
      · simp only [h2, if_true]; exact Ev.now _
      · simp only [if_neg h2]; exact Ev.now _
    refine Ev.step (fun k => ?_) hb2
    simp only [mudlarkref01_Octal.j3]
    rw [if_neg (by simp), if_neg h1, if_pos (by omega), if_pos (by omega), Int.toNat_natCast]
theorem refDigits (l : List Int) (hl : l.length < 9223372036854775807) : ∀ (d i : Nat) (n : Int), l.length - i = d → i ≤ l.length → 0 ≤ n → n ≤ 4611686018427387911 →
    Ev (fun k => mudlarkref01_Octal.l1 k l (i : Int) n) (octAt (l.drop i) n)
  | 0, i, n, hd, hi, h0, h1 => by
    have e : i = l.length := by omega
    subst e
    refine Ev.step (fun k => ?_) (refOther l hl l.length n (Nat.le_refl _) (.inl (by simp)))
    simp only [mudlarkref01_Octal.l1]
    rw [if_neg (by omega)]
  | d + 1, i, n, hd, hi, h0, h1 => by
    have hlt : i < l.length := by omega
    have er : rd l (i : Int) = l[i] := rd_at l i hlt
    have ed : l.drop i = l[i] :: l.drop (i + 1) := List.drop_eq_getElem_cons hlt
    have er2 : rd (l.drop i) 0 = l[i] := by rw [ed]; rfl
    have hdl : 0 < (l.drop i).length := by rw [List.length_drop]; omega
    by_cases h2 : 48 ≤ l[i]
    · by_cases h3 : l[i] ≤ 55
      · have hdg : (l.drop i).drop 1 = l.drop (i + 1) := by rw [List.drop_drop]
        have hstep := octLoop_digit (l.drop i) n hdl (by rw [er2]; exact h2) (by rw [er2]; exact h3)
        rw [er2, hdg] at hstep
        by_cases h4 : n > 576460752303423488
        · have e : octAt (l.drop i) n = (0, false) := by
            unfold octAt
            by_cases h5 : n > 4611686018427387904
            · rw [if_pos h5]
            · rw [if_neg h5, hstep, if_pos (.inl h4)]; rfl
          rw [e]
          refine Ev.step (f := fun k => mudlarkref01_Octal.j3 k l (i : Int) n true) (fun k => ?_) (Ev.step (f := fun _ => some (0, false)) (fun k => ?_) (Ev.now _))
          · simp only [mudlarkref01_Octal.l1]
            rw [if_pos (by omega), if_pos (by omega), er, if_pos h2, show decide (l[i] ≤ 55) = true from decide_eq_true h3]
          · simp only [mudlarkref01_Octal.j3]
            rw [if_pos trivial, if_pos h4]
        · have ih := refDigits l hl d (i + 1) (8 * n + (l[i] - 48)) (by omega) (by omega) (by omega) (by omega)
          have e : octAt (l.drop i) n = octAt (l.drop (i + 1)) (8 * n + (l[i] - 48)) := by
            unfold octAt
            rw [if_neg (by omega), hstep]
            by_cases h5 : 8 * n + (l[i] - 48) > 4611686018427387904
            · rw [if_pos (.inr h5), if_pos h5]; rfl
            · rw [if_neg (by omega), if_neg h5]
          rw [e]
          refine Ev.step (f := fun k => mudlarkref01_Octal.j3 k l (i : Int) n true) (fun k => ?_) (Ev.step (fun k => ?_) ih)
          · simp only [mudlarkref01_Octal.l1]
            rw [if_pos (by omega), if_pos (by omega), er, if_pos h2, show decide (l[i] ≤ 55) = true from decide_eq_true h3]
          · simp only [mudlarkref01_Octal.j3]
            rw [if_pos trivial, if_neg h4, if_pos (by omega), if_pos (by omega), er, next_i i (by omega), wrap64_id (8 * n) (by omega) (by omega), wrap64_id l[i] (by omega) (by omega), wrap64_id (8 * n + l[i]) (by omega) (by omega), wrap64_id _ (by omega) (by omega)]
            congr 1
            omega
      · refine Ev.step (fun k => ?_) (refOther l hl i n hi (.inr (.inr (by rw [er2]; omega))))
        simp only [mudlarkref01_Octal.l1]
        rw [if_pos (by omega), if_pos (by omega), er, if_pos h2, show decide (l[i] ≤ 55) = false from decide_eq_false h3]
    · refine Ev.step (fun k => ?_) (refOther l hl i n hi (.inr (.inl (by rw [er2]; omega))))
      simp only [mudlarkref01_Octal.l1]
      rw [if_pos (by omega), if_pos (by omega), er, if_neg h2]
theorem refSkip (l : List Int) (hl : l.length < 9223372036854775807) : ∀ (d i : Nat), l.length - i = d → i ≤ l.length →
    Ev (fun k => mudlarkref01_Octal.l0 k l (i : Int)) (octRes (octLoop ((l.drop i).dropWhile (fun x => decide (x = 32))) 0))
  | 0, i, hd, hi => by
    have e : i = l.length := by omega
    subst e
    have h := refDigits l hl 0 l.length 0 (by omega) (by omega) (by omega) (by omega)
    refine Ev.step (f := fun k => mudlarkref01_Octal.j1 k l (l.length : Int)) (fun k => ?_) (Ev.step (fun k => ?_) (by simpa [octAt] using h))
    · simp only [mudlarkref01_Octal.l0]
      rw [if_neg (by omega)]
    · rfl
  | d + 1, i, hd, hi => by
    have hlt : i < l.length := by omega
    have er : rd l (i : Int) = l[i] := rd_at l i hlt
    have ed : l.drop i = l[i] :: l.drop (i + 1) := List.drop_eq_getElem_cons hlt
    by_cases h1 : l[i] = 32
    · have ih := refSkip l hl d (i + 1) (by omega) (by omega)
      refine Ev.step (fun k => ?_) (by rw [ed, List.dropWhile_cons_of_pos (by simpa using h1)]; exact ih)
      simp only [mudlarkref01_Octal.l0]
      rw [if_pos (by omega), if_pos (by omega), er, if_pos h1, next_i i (by omega)]
    · have h := refDigits l hl (d + 1) i 0 (by omega) (by omega) (by omega) (by omega)
      have e : (l.drop i).dropWhile (fun x => decide (x = 32)) = l.drop i := by rw [ed, List.dropWhile_cons_of_neg (by simpa using h1)]
      rw [e]
      refine Ev.step (f := fun k => mudlarkref01_Octal.j1 k l (i : Int)) (fun k => ?_) (Ev.step (fun k => ?_) (by simpa [octAt] using h))
      · simp only [mudlarkref01_Octal.l0]
        rw [if_pos (by omega), if_pos (by omega), er, if_neg h1]
      · rfl
theorem RefOctal_eq (l : List Int) (hl : l.length < 9223372036854775807) : Ev (fun k => mudlarkref01_Octal.f k l) (octF l) := by
  have h := refSkip l hl l.length 0 (by omega) (by omega)
  rw [List.drop_zero] at h
  exact h

/-! ### PutOctal, Seal -/
theorem RefTold_eq (l : List Int) : Ev (fun k => mudlarkref05_Told.f k l) (toldF l) := by
  unfold mudlarkref05_Told.f toldF
  by_cases h : l.length = 512
  · have c1 : (l.length : Int) = 512 := by omega
    have c2 : (156 : Int) ≤ (l.length : Int) := by omega
    simp only [if_pos c1, if_pos c2, if_pos h, show (148 : Int) ≤ 156 by decide, if_true]
    refine Ev.bind (f := fun k (bt : Int × Bool) => some (bt.1, bt.2)) (RefOctal_eq ((l.take 156).drop 148) (by rw [List.length_drop, List.length_take]; omega)) ?_
    exact Ev.now _
  · have c1 : ¬ (l.length : Int) = 512 := by omega
    simp only [if_neg c1, if_neg h]
    exact Ev.now _
theorem RefRight_eq (l : List Int) (hb : Bytes l) (hl : l.length ≤ 100000) : Ev (fun k => mudlarkref05_Right.f k l) (rightF l) := by
  unfold mudlarkref05_Right.f
  refine Ev.bind (f := fun k (bt : Int × Bool) => if bt.2 = true then ((mudlarkref05_Unsigned.f k l).bind fun t => if bt.1 = t then some true else ((mudlarkref05_Signed.f k l).bind fun t' => some (bt.1 == t'))) else some false) (RefTold_eq l) ?_
  unfold rightF
  cases h2 : (toldF l).2 with
  | false => simpa using Ev.now false
  | true =>
    simp only [if_true, Bool.true_and]
    refine Ev.bind (RefUnsigned_eq l hb hl) ?_
    by_cases h3 : (toldF l).1 = sU 0 l
    · simpa [h3] using Ev.now true
    · simp only [h3, if_false, decide_false, Bool.false_or]
      refine Ev.bind (RefSigned_eq l hb hl) ?_
      exact Ev.now _
end Go.Proofs.YtdeolcgabkkocaaDoor.P
