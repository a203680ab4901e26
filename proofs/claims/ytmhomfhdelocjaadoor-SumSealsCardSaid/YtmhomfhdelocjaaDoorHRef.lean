/- What the printed reference functions of this chapter come to: the same as the program's. No conditions. -/
import Derived.Test.YtmhomfhdelocjaaDoorHPure
import Derived.Test.YtmhomfhdelocjaaDoorPx3
import Derived.Test.YtmhomfhdelocjaaDoorPx4
import Derived.Test.YtmhomfhdelocjaaDoorPx5
namespace Go.Proofs.YtmhomfhdelocjaaDoor.P
open Go.RowKit Go.Shelf Go.Lib Go.Proofs.YtmhomfhdelocjaaDoorW.PrintWords Go.Proofs.YtmhomfhdelocjaaDoorW.PrintLast Go.Proofs.YtmhomfhdelocjaaDoorW.PrintMore
set_option linter.unusedVariables false
set_option linter.unusedSimpArgs false

theorem next_i (i : Nat) (h : i < 9223372036854775807) : wrap64 ((i : Int) + 1) = ((i + 1 : Nat) : Int) := by rw [wrap64_id _ (by omega) (by omega)]; push_cast; rfl

/-! ### sums -/
theorem refU (l : List Int) (hb : Bytes l) (hl : l.length ≤ 100000) : ∀ (d : Nat) (i : Nat) (n : Int), l.length - i = d → i ≤ l.length → 0 ≤ n → n ≤ 255 * i →
    Ev (fun k => mudlarkref05_Unsigned.l0 k l n (i : Int)) (n + sU i (l.drop i))
  | 0, i, n, hd, hi, h0, h1 => by
    have e : i = l.length := by omega
    subst e
    refine Ev.step (f := fun _ => some n) (fun k => by simp only [mudlarkref05_Unsigned.l0]; rw [if_neg (by omega)]) ?_
    rw [List.drop_length]
    simpa [sU] using Ev.now n
  | d + 1, i, n, hd, hi, h0, h1 => by
    have hlt : i < l.length := by omega
    have hxr := hb l[i] (List.getElem_mem _)
    have er : rd l (i : Int) = l[i] := rd_at l i hlt
    have ed : l.drop i = l[i] :: l.drop (i + 1) := List.drop_eq_getElem_cons hlt
    have ew := next_i i (by omega)
    obtain ⟨c, hc⟩ : ∃ c, c = (if 148 ≤ i ∧ i < 156 then 32 else l[i]) := ⟨_, rfl⟩
    have hcb : 0 ≤ c ∧ c ≤ 255 := by rw [hc]; split <;> omega
    have ih := refU l hb hl d (i + 1) (n + c) (by omega) (by omega) (by omega) (by push_cast; omega)
    refine Ev.step (f := fun k => mudlarkref05_Unsigned.l0 k l (n + c) ((i + 1 : Nat) : Int)) (fun k => ?_) ?_
    · simp only [mudlarkref05_Unsigned.l0]
      rw [if_pos (by omega)]
      by_cases h2 : 148 ≤ i ∧ i < 156
      · rw [if_pos h2] at hc
        subst hc
        rw [if_pos (by omega), if_pos (by omega), ew, wrap64_id (n + 32) (by omega) (by omega)]
      · rw [if_neg h2] at hc
        rw [← er] at hc
        subst hc
        rw [ew, wrap64_id (rd l (i : Int)) (by omega) (by omega), wrap64_id (n + rd l (i : Int)) (by omega) (by omega)]
        by_cases h3 : (i : Int) ≥ 148
        · rw [if_pos h3, if_neg (by omega), if_pos (by omega)]
        · rw [if_neg h3, if_pos (by omega)]
    · rw [ed]
      simp only [sU]
      rw [← hc, ← Int.add_assoc]
      exact ih
theorem RefUnsigned_eq (l : List Int) (hb : Bytes l) (hl : l.length ≤ 100000) : Ev (fun k => mudlarkref05_Unsigned.f k l) (sU 0 l) := by
  have h := refU l hb hl l.length 0 0 (by omega) (by omega) (by omega) (by omega)
  rw [List.drop_zero, Int.zero_add] at h
  exact h
theorem refS (l : List Int) (hb : Bytes l) (hl : l.length ≤ 100000) : ∀ (d : Nat) (i : Nat) (n : Int), l.length - i = d → i ≤ l.length → -256 * i ≤ n → n ≤ 25600000 →
    Ev (fun k => mudlarkref05_Signed.l0 k l n (i : Int)) (n + (sS i (l.drop i) - sU i (l.drop i)))
  | 0, i, n, hd, hi, h0, h1 => by
    have e : i = l.length := by omega
    subst e
    refine Ev.step (f := fun _ => some n) (fun k => by simp only [mudlarkref05_Signed.l0]; rw [if_neg (by omega)]) ?_
    rw [List.drop_length]
    simpa [sU, sS] using Ev.now n
  | d + 1, i, n, hd, hi, h0, h1 => by
    have hlt : i < l.length := by omega
    have hxr := hb l[i] (List.getElem_mem _)
    have er : rd l (i : Int) = l[i] := rd_at l i hlt
    have ed : l.drop i = l[i] :: l.drop (i + 1) := List.drop_eq_getElem_cons hlt
    have ew := next_i i (by omega)
    obtain ⟨c, hc⟩ : ∃ c : Int, c = (if 148 ≤ i ∧ i < 156 then 0 else if l[i] > 127 then -256 else 0) := ⟨_, rfl⟩
    have hcb : -256 ≤ c ∧ c ≤ 0 := by
      rw [hc]
      split
      · omega
      · split <;> omega
    have ih := refS l hb hl d (i + 1) (n + c) (by omega) (by omega) (by push_cast; omega) (by omega)
    refine Ev.step (f := fun k => mudlarkref05_Signed.l0 k l (n + c) ((i + 1 : Nat) : Int)) (fun k => ?_) ?_
    · simp only [mudlarkref05_Signed.l0]
      rw [if_pos (by omega), er, ew]
      by_cases h1 : (i : Int) < 148
      · rw [if_pos h1, if_pos (by omega)]
        rw [if_neg (by omega)] at hc
        by_cases h2 : l[i] > 127
        · rw [if_pos h2] at hc ⊢
          subst hc
          rw [wrap64_id (n - 256) (by omega) (by omega)]
          rfl
        · rw [if_neg h2] at hc ⊢
          subst hc
          rw [Int.add_zero]
      · rw [if_neg h1]
        by_cases h3 : (i : Int) ≥ 156
        · rw [if_pos h3, if_pos (by omega)]
          rw [if_neg (by omega)] at hc
          by_cases h2 : l[i] > 127
          · rw [if_pos h2] at hc ⊢
            subst hc
            rw [wrap64_id (n - 256) (by omega) (by omega)]
            rfl
          · rw [if_neg h2] at hc ⊢
            subst hc
            rw [Int.add_zero]
        · rw [if_neg h3]
          rw [if_pos (by omega)] at hc
          subst hc
          rw [Int.add_zero]
    · have e2 : n + (sS i (l.drop i) - sU i (l.drop i)) = n + c + (sS (i + 1) (l.drop (i + 1)) - sU (i + 1) (l.drop (i + 1))) := by
        rw [ed]
        simp only [sU, sS]
        rw [hc]
        by_cases h2 : 148 ≤ i ∧ i < 156
        · simp only [if_pos h2]; omega
        · simp only [if_neg h2]
          split <;> omega
      rw [e2]
      exact ih
theorem RefSigned_eq (l : List Int) (hb : Bytes l) (hl : l.length ≤ 100000) : Ev (fun k => mudlarkref05_Signed.f k l) (sS 0 l) := by
  have hu := sU_bound l 0 hb
  have h := refS l hb hl l.length 0 (sU 0 l) (by omega) (by omega) (by omega) (by omega)
  rw [List.drop_zero, show sU 0 l + (sS 0 l - sU 0 l) = sS 0 l by omega] at h
  exact Ev.bind (RefUnsigned_eq l hb hl) h

/-! ### numbers of digits -/
theorem refBlank (l : List Int) (hl : l.length < 9223372036854775807) : ∀ (d i : Nat), l.length - i = d → i ≤ l.length → Ev (fun k => mudlarkref01_blank.l0 k l true (i : Int)) ((l.drop i).all blankB)
  | 0, i, hd, hi => by
    have e : i = l.length := by omega
    subst e
    refine Ev.step (f := fun _ => some true) (fun k => by simp only [mudlarkref01_blank.l0]; rw [if_neg (by omega)]) ?_
    rw [List.drop_length]
    exact Ev.now _
  | d + 1, i, hd, hi => by
    have hlt : i < l.length := by omega
    have er : rd l (i : Int) = l[i] := rd_at l i hlt
    have ed : l.drop i = l[i] :: l.drop (i + 1) := List.drop_eq_getElem_cons hlt
    have ih := refBlank l hl d (i + 1) (by omega) (by omega)
    rw [ed, List.all_cons]
    by_cases h1 : l[i] = 32
    · refine Ev.step (f := fun k => mudlarkref01_blank.l0 k l true ((i + 1 : Nat) : Int)) (fun k => ?_) (by simpa [blankB, h1] using ih)
      simp only [mudlarkref01_blank.l0]
      rw [if_pos (by omega), if_pos (by omega), er, if_pos h1, next_i i (by omega)]
    · by_cases h2 : l[i] = 0
      · refine Ev.step (f := fun k => mudlarkref01_blank.l0 k l true ((i + 1 : Nat) : Int)) (fun k => ?_) (by simpa [blankB, h2] using ih)
        simp only [mudlarkref01_blank.l0]
        rw [if_pos (by omega), if_pos (by omega), er, if_neg h1, if_pos trivial, if_pos h2, next_i i (by omega)]
      · refine Ev.step (f := fun k => some false) (fun k => ?_) (by simpa [blankB, h1, h2] using Ev.now false)
        simp only [mudlarkref01_blank.l0]
        rw [if_pos (by omega), if_pos (by omega), er, if_neg h1, if_pos trivial, if_neg h2]
theorem RefBlank_eq (l : List Int) (hl : l.length < 9223372036854775807) : Ev (fun k => mudlarkref01_blank.f k l true) (l.all blankB) := by
  have h := refBlank l hl l.length 0 (by omega) (by omega)
  rw [List.drop_zero] at h
  exact h
def octAt (x : List Int) (n : Int) : Int × Bool := if n > 4611686018427387904 then (0, false) else octRes (octLoop x n)
theorem refOther (l : List Int) (hl : l.length < 9223372036854775807) (i : Nat) (n : Int) (hi : i ≤ l.length) (h : (l.drop i).length = 0 ∨ rd (l.drop i) 0 < 48 ∨ 55 < rd (l.drop i) 0) :
    Ev (fun k => mudlarkref01_Octal.j3 k l (i : Int) n false) (octAt (l.drop i) n) := by
  unfold octAt
  rw [octLoop_other _ _ h]
  by_cases h1 : n > 4611686018427387904
  · rw [if_pos h1]
    refine Ev.step (f := fun _ => some (0, false)) (fun k => ?_) (Ev.now _)
    simp only [mudlarkref01_Octal.j3]
    rw [if_neg (by simp), if_pos h1]
  · rw [if_neg h1]
    have hb := RefBlank_eq (l.drop i) (by rw [List.length_drop]; omega)
    have hb2 : Ev (fun k => (mudlarkref01_blank.f k (l.drop i) true).bind fun t => if t = true then some (n, true) else some (0, false)) (octRes (some (n, l.drop i))) := by
      refine Ev.bind hb ?_
      simp only [octRes]
      by_cases h2 : (l.drop i).all blankB = true
      · simp only [h2, if_true]; exact Ev.now _
      · simp only [if_neg h2]; exact Ev.now _
    refine Ev.step (fun k => ?_) hb2
    simp only [mudlarkref01_Octal.j3]
    rw [if_neg (by simp), if_neg h1, if_pos (by omega), if_pos (by omega), Int.toNat_natCast]
theorem refDigits (l : List Int) (hl : l.length < 9223372036854775807) : ∀ (d i : Nat) (n : Int), l.length - i = d → i ≤ l.length → 0 ≤ n → n ≤ 4611686018427387911 →
    Ev (fun k => mudlarkref01_Octal.l1 k l (i : Int) n) (octAt (l.drop i) n)
  | 0, i, n, hd, hi, h0, h1 => by
    have e : i = l.length := by omega
    subst e
    refine Ev.step (fun k => ?_) (refOther l hl l.length n (Nat.le_refl _) (.inl (by simp)))
    simp only [mudlarkref01_Octal.l1]
    rw [if_neg (by omega)]
  | d + 1, i, n, hd, hi, h0, h1 => by
    have hlt : i < l.length := by omega
    have er : rd l (i : Int) = l[i] := rd_at l i hlt
    have ed : l.drop i = l[i] :: l.drop (i + 1) := List.drop_eq_getElem_cons hlt
    have er2 : rd (l.drop i) 0 = l[i] := by rw [ed]; rfl
    have hdl : 0 < (l.drop i).length := by rw [List.length_drop]; omega
    by_cases h2 : 48 ≤ l[i]
    · by_cases h3 : l[i] ≤ 55
      · have hdg : (l.drop i).drop 1 = l.drop (i + 1) := by rw [List.drop_drop]
        have hstep := octLoop_digit (l.drop i) n hdl (by rw [er2]; exact h2) (by rw [er2]; exact h3)
        rw [er2, hdg] at hstep
        by_cases h4 : n > 576460752303423488
        · have e : octAt (l.drop i) n = (0, false) := by
            unfold octAt
            by_cases h5 : n > 4611686018427387904
            · rw [if_pos h5]
            · rw [if_neg h5, hstep, if_pos (.inl h4)]; rfl
          rw [e]
          refine Ev.step (f := fun k => mudlarkref01_Octal.j3 k l (i : Int) n true) (fun k => ?_) (Ev.step (f := fun _ => some (0, false)) (fun k => ?_) (Ev.now _))
          · simp only [mudlarkref01_Octal.l1]
            rw [if_pos (by omega), if_pos (by omega), er, if_pos h2, show decide (l[i] ≤ 55) = true from decide_eq_true h3]
          · simp only [mudlarkref01_Octal.j3]
            rw [if_pos trivial, if_pos h4]
        · have ih := refDigits l hl d (i + 1) (8 * n + (l[i] - 48)) (by omega) (by omega) (by omega) (by omega)
          have e : octAt (l.drop i) n = octAt (l.drop (i + 1)) (8 * n + (l[i] - 48)) := by
            unfold octAt
            rw [if_neg (by omega), hstep]
            by_cases h5 : 8 * n + (l[i] - 48) > 4611686018427387904
            · rw [if_pos (.inr h5), if_pos h5]; rfl
            · rw [if_neg (by omega), if_neg h5]
          rw [e]
          refine Ev.step (f := fun k => mudlarkref01_Octal.j3 k l (i : Int) n true) (fun k => ?_) (Ev.step (fun k => ?_) ih)
          · simp only [mudlarkref01_Octal.l1]
            rw [if_pos (by omega), if_pos (by omega), er, if_pos h2, show decide (l[i] ≤ 55) = true from decide_eq_true h3]
          · simp only [mudlarkref01_Octal.j3]
            rw [if_pos trivial, if_neg h4, if_pos (by omega), if_pos (by omega), er, next_i i (by omega), wrap64_id (8 * n) (by omega) (by omega), wrap64_id l[i] (by omega) (by omega), wrap64_id (8 * n + l[i]) (by omega) (by omega), wrap64_id _ (by omega) (by omega)]
            congr 1
            omega
      · refine Ev.step (fun k => ?_) (refOther l hl i n hi (.inr (.inr (by rw [er2]; omega))))
        simp only [mudlarkref01_Octal.l1]
        rw [if_pos (by omega), if_pos (by omega), er, if_pos h2, show decide (l[i] ≤ 55) = false from decide_eq_false h3]
    · refine Ev.step (fun k => ?_) (refOther l hl i n hi (.inr (.inl (by rw [er2]; omega))))
      simp only [mudlarkref01_Octal.l1]
      rw [if_pos (by omega), if_pos (by omega), er, if_neg h2]
theorem refSkip (l : List Int) (hl : l.length < 9223372036854775807) : ∀ (d i : Nat), l.length - i = d → i ≤ l.length →
    Ev (fun k => mudlarkref01_Octal.l0 k l (i : Int)) (octRes (octLoop ((l.drop i).dropWhile (fun x => decide (x = 32))) 0))
  | 0, i, hd, hi => by
    have e : i = l.length := by omega
    subst e
    have h := refDigits l hl 0 l.length 0 (by omega) (by omega) (by omega) (by omega)
    refine Ev.step (f := fun k => mudlarkref01_Octal.j1 k l (l.length : Int)) (fun k => ?_) (Ev.step (fun k => ?_) (by simpa [octAt] using h))
    · simp only [mudlarkref01_Octal.l0]
      rw [if_neg (by omega)]
    · rfl
  | d + 1, i, hd, hi => by
    have hlt : i < l.length := by omega
    have er : rd l (i : Int) = l[i] := rd_at l i hlt
    have ed : l.drop i = l[i] :: l.drop (i + 1) := List.drop_eq_getElem_cons hlt
    by_cases h1 : l[i] = 32
    · have ih := refSkip l hl d (i + 1) (by omega) (by omega)
      refine Ev.step (fun k => ?_) (by rw [ed, List.dropWhile_cons_of_pos (by simpa using h1)]; exact ih)
      simp only [mudlarkref01_Octal.l0]
      rw [if_pos (by omega), if_pos (by omega), er, if_pos h1, next_i i (by omega)]
    · have h := refDigits l hl (d + 1) i 0 (by omega) (by omega) (by omega) (by omega)
      have e : (l.drop i).dropWhile (fun x => decide (x = 32)) = l.drop i := by rw [ed, List.dropWhile_cons_of_neg (by simpa using h1)]
      rw [e]
      refine Ev.step (f := fun k => mudlarkref01_Octal.j1 k l (i : Int)) (fun k => ?_) (Ev.step (fun k => ?_) (by simpa [octAt] using h))
      · simp only [mudlarkref01_Octal.l0]
        rw [if_pos (by omega), if_pos (by omega), er, if_neg h1]
      · rfl
theorem RefOctal_eq (l : List Int) (hl : l.length < 9223372036854775807) : Ev (fun k => mudlarkref01_Octal.f k l) (octF l) := by
  have h := refSkip l hl l.length 0 (by omega) (by omega)
  rw [List.drop_zero] at h
  exact h

/-! ### PutOctal, Seal -/
theorem refPut (size : Nat) (hs2 : size ≤ 32) : ∀ (d : Nat) (n : Int) (tail : List Int), d ≤ size → 0 ≤ n → n ≤ 4611686018427387904 →
    Ev (fun k => mudlarkref01_PutOctal.l0 k n (List.replicate d 0 ++ tail) ((d : Int) - 1)) (if n / 8 ^ d > 0 then ([], false) else (digs d n ++ tail, true))
  | 0, n, tail, hd, h0, h1 => by
    refine Ev.step (f := fun _ => some (if n / 8 ^ 0 > 0 then ([], false) else (digs 0 n ++ tail, true))) (fun k => ?_) (Ev.now _)
    simp only [mudlarkref01_PutOctal.l0]
    rw [if_neg (by omega)]
    simp only [Int.pow_zero, Int.ediv_one, digs, List.nil_append, List.replicate_zero]
    split <;> rfl
  | d + 1, n, tail, hd, h0, h1 => by
    have ih := refPut size hs2 d (n / 8) ((48 + n % 8) :: tail) (by omega) (by omega) (by omega)
    have e1 : ((d + 1 : Nat) : Int) - 1 = (d : Int) := by omega
    have e2 : wrap64 (48 + Int.tmod n 8) % 256 = 48 + n % 8 := by
      rw [Int.tmod_eq_emod_of_nonneg h0, wrap64_id _ (by omega) (by omega)]
      omega
    have e3 : wrap64 (Int.tdiv n 8) = n / 8 := by
      rw [Int.tdiv_eq_ediv_of_nonneg h0, wrap64_id _ (by omega) (by omega)]
    have e5 : (if n / 8 ^ (d + 1) > 0 then (([], false) : List Int × Bool) else (digs (d + 1) n ++ tail, true)) = (if n / 8 / 8 ^ d > 0 then ([], false) else (digs d (n / 8) ++ ((48 + n % 8) :: tail), true)) := by
      rw [show n / 8 / 8 ^ d = n / 8 ^ (d + 1) by rw [Int.pow_succ', Int.ediv_ediv_of_nonneg (by omega)]]
      simp only [digs, List.append_assoc, List.singleton_append]
    rw [e5, e1]
    refine Ev.step (fun k => ?_) ih
    simp only [mudlarkref01_PutOctal.l0]
    rw [if_pos (by omega), if_pos (by omega), if_pos (by simp; omega), e2, e3, Int.toNat_natCast, set_at_end, wrap64_id ((d : Int) - 1) (by omega) (by omega)]
theorem RefPutOctal_eq (n : Int) (size : Nat) (hs : 2 ≤ size) (hs2 : size ≤ 32) (h0 : 0 ≤ n) (h1 : n ≤ 4611686018427387904) :
    Ev (fun k => mudlarkref01_PutOctal.f k n (size : Int)) (if n / 8 ^ (size - 1) > 0 then ([], false) else (digs (size - 1) n ++ [0], true)) := by
  have h := refPut size hs2 (size - 1) n [0] (by omega) h0 h1
  have e : List.replicate (size - 1) (0 : Int) ++ [0] = List.replicate size 0 := by
    rw [← List.replicate_succ']; congr 1; omega
  rw [e] at h
  have hj : Ev (fun k => mudlarkref01_PutOctal.j0 k n (size : Int) false) (if n / 8 ^ (size - 1) > 0 then ([], false) else (digs (size - 1) n ++ [0], true)) := by
    refine Ev.step (fun k => ?_) h
    simp only [mudlarkref01_PutOctal.j0]
    rw [if_neg (by simp), if_pos (by omega), if_pos (by omega), Int.toNat_natCast, wrap64_id _ (by omega) (by omega)]
    congr 1
    omega
  refine Ev.congr (fun k => ?_) hj
  unfold mudlarkref01_PutOctal.f
  rw [if_neg (by omega), if_neg (by omega), if_neg (by omega), show decide (n > 4611686018427387904) = false from decide_eq_false (by omega)]

theorem set_mid (a : List Int) (x v : Int) (b : List Int) (i : Nat) (h : i = a.length) : (a ++ x :: b).set i v = a ++ v :: b := by
  subst h
  rw [List.set_append_right _ _ (Nat.le_refl _), Nat.sub_self, List.set_cons_zero]
/-- The digits are copied, then a blank is laid. -/
theorem refSealDigits (x dg : List Int) (hx : x.length = 512) (hd : dg.length = 7) : ∀ (d i : Nat), 7 - i = d → i ≤ 7 →
    Ev (fun k => mudlarkref05_Seal.l1 k (x.take 148 ++ dg.take i ++ x.drop (148 + i)) dg (i : Int)) (x.take 148 ++ dg ++ [32] ++ x.drop 156)
  | 0, i, hdi, hi => by
    obtain rfl : i = 7 := by omega
    refine Ev.step (f := fun _ => some (x.take 148 ++ dg ++ [32] ++ x.drop 156)) (fun k => ?_) (Ev.now _)
    simp only [mudlarkref05_Seal.l1]
    have e : dg.take 7 = dg := List.take_of_length_le (by omega)
    rw [if_neg (by omega), e]
    have e2 : x.drop (148 + 7) = x[155] :: x.drop 156 := List.drop_eq_getElem_cons (by omega)
    rw [e2]
    have e3 : (x.take 148 ++ dg).length = 155 := by rw [List.length_append, List.length_take, hd, hx]; rfl
    rw [if_pos (by rw [List.length_append, e3, List.length_cons]; omega)]
    rw [show ((155 : Int)).toNat = 155 from rfl, set_mid _ _ _ _ 155 e3.symm]
    simp
  | d + 1, i, hdi, hi => by
    have ih := refSealDigits x dg hx hd d (i + 1) (by omega) (by omega)
    refine Ev.step (fun k => ?_) ih
    have hi7 : i < dg.length := by omega
    have e2 : x.drop (148 + i) = x[148 + i] :: x.drop (148 + (i + 1)) := List.drop_eq_getElem_cons (by omega)
    have e3 : (x.take 148 ++ dg.take i).length = 148 + i := by rw [List.length_append, List.length_take, List.length_take, hd, hx]; omega
    have e4 : wrap64 (148 + (i : Int)) = ((148 + i : Nat) : Int) := by rw [wrap64_id _ (by omega) (by omega)]; push_cast; rfl
    simp only [mudlarkref05_Seal.l1]
    rw [if_pos (by omega), if_pos (by omega), if_pos (by omega), e4, if_pos (by omega), e2]
    rw [if_pos (by rw [List.length_append, e3, List.length_cons, List.length_drop]; omega), Int.toNat_natCast, set_mid _ _ _ _ (148 + i) e3.symm, next_i i (by omega), rd_at dg i hi7]
    congr 1
    rw [List.take_succ_eq_append_getElem hi7]
    simp only [List.append_assoc, List.singleton_append, List.cons_append, List.nil_append]
theorem refSealCopy (l : List Int) (hb : Bytes l) (hl : l.length < 9223372036854775807) : ∀ (d i : Nat), 512 - i = d → i ≤ 512 → i ≤ l.length →
    Ev (fun k => mudlarkref05_Seal.l0 k l (l.take i ++ List.replicate (512 - i) 0) (i : Int)) (sealF l) := by
  have hjoin : ∀ i : Nat, (i = l.length ∨ i = 512) → i ≤ 512 → i ≤ l.length → Ev (fun k => mudlarkref05_Seal.j1 k (l.take i ++ List.replicate (512 - i) 0)) (sealF l) := by
    intro i hi h5 hil
    have ex : l.take i ++ List.replicate (512 - i) 0 = padF l := by
      unfold padF
      rcases hi with rfl | rfl
      · rw [List.take_length, List.take_of_length_le h5]
      · rw [show 512 - l.length = 0 by omega]
    rw [ex]
    have hpl := padF_length l
    have hpb := padF_bytes l hb
    have hsb := sU_bound (padF l) 0 hpb
    have hq : ¬ (sU 0 (padF l) / 8 ^ (7 - 1) > 0) := by
      have e : (8 : Int) ^ (7 - 1) = 262144 := by decide
      rw [e]
      omega
    have hP := RefPutOctal_eq (sU 0 (padF l)) 7 (by omega) (by omega) hsb.1 (by omega)
    rw [if_neg hq] at hP
    have hd := refSealDigits (padF l) (digs 6 (sU 0 (padF l)) ++ [0]) hpl (by rw [List.length_append, digs_length]; rfl) 7 0 (by omega) (by omega)
    rw [List.take_zero, List.append_nil, show 148 + 0 = 148 from rfl, List.take_append_drop] at hd
    refine Ev.step (fun k => ?_) (Ev.bind (f := fun k n => (mudlarkref01_PutOctal.f k n 7).bind fun bt => mudlarkref05_Seal.l1 k (padF l) bt.1 0) (RefUnsigned_eq (padF l) hpb (by omega)) (Ev.bind (f := fun k (bt : List Int × Bool) => mudlarkref05_Seal.l1 k (padF l) bt.1 0) hP hd))
    rfl
  intro d
  induction d with
  | zero =>
    intro i hd hi hil
    obtain rfl : i = 512 := by omega
    refine Ev.step (fun k => ?_) (hjoin 512 (.inr rfl) hi hil)
    simp only [mudlarkref05_Seal.l0]
    by_cases h : ((512 : Nat) : Int) < (l.length : Int)
    · rw [if_pos h, if_neg (by omega)]
    · rw [if_neg h]
  | succ d ih =>
    intro i hd hi hil
    by_cases h : i = l.length
    · refine Ev.step (fun k => ?_) (hjoin i (.inl h) hi hil)
      simp only [mudlarkref05_Seal.l0]
      rw [if_neg (by omega)]
    · have hlt : i < l.length := by omega
      refine Ev.step (fun k => ?_) (ih (i + 1) (by omega) (by omega) (by omega))
      simp only [mudlarkref05_Seal.l0]
      have e : 512 - i = (512 - (i + 1)) + 1 := by omega
      have e3 : (l.take i).length = i := by rw [List.length_take]; omega
      rw [if_pos (by omega), if_pos (by omega), if_pos (by omega), e, List.replicate_succ, if_pos (by rw [List.length_append, e3, List.length_cons, List.length_replicate]; omega), Int.toNat_natCast, set_mid _ _ _ _ i e3.symm, next_i i (by omega), rd_at l i hlt]
      congr 1
      rw [List.take_succ_eq_append_getElem hlt]
      simp only [List.append_assoc, List.singleton_append, List.cons_append, List.nil_append]
theorem RefSeal_eq (l : List Int) (hb : Bytes l) (hl : l.length < 9223372036854775807) : Ev (fun k => mudlarkref05_Seal.f k l) (sealF l) := by
  have h := refSealCopy l hb hl 512 0 (by omega) (by omega) (by omega)
  rw [List.take_zero, List.nil_append] at h
  refine Ev.congr (fun k => ?_) h
  unfold mudlarkref05_Seal.f
  rw [if_pos (by decide)]
  rfl

/-! ### Told, Right, Zero -/
theorem RefTold_eq (l : List Int) : Ev (fun k => mudlarkref05_Told.f k l) (toldF l) := by
  unfold mudlarkref05_Told.f toldF
  by_cases h : l.length = 512
  · have c1 : (l.length : Int) = 512 := by omega
    have c2 : (156 : Int) ≤ (l.length : Int) := by omega
    simp only [if_pos c1, if_pos c2, if_pos h, show (148 : Int) ≤ 156 by decide, if_true]
    refine Ev.bind (f := fun k (bt : Int × Bool) => some (bt.1, bt.2)) (RefOctal_eq ((l.take 156).drop 148) (by rw [List.length_drop, List.length_take]; omega)) ?_
    exact Ev.now _
  · have c1 : ¬ (l.length : Int) = 512 := by omega
    simp only [if_neg c1, if_neg h]
    exact Ev.now _
theorem RefRight_eq (l : List Int) (hb : Bytes l) (hl : l.length ≤ 100000) : Ev (fun k => mudlarkref05_Right.f k l) (rightF l) := by
  unfold mudlarkref05_Right.f
  refine Ev.bind (f := fun k (bt : Int × Bool) => if bt.2 = true then ((mudlarkref05_Unsigned.f k l).bind fun t => if bt.1 = t then some true else ((mudlarkref05_Signed.f k l).bind fun t' => some (bt.1 == t'))) else some false) (RefTold_eq l) ?_
  unfold rightF
  cases h2 : (toldF l).2 with
  | false => simpa using Ev.now false
  | true =>
    simp only [if_true, Bool.true_and]
    refine Ev.bind (RefUnsigned_eq l hb hl) ?_
    by_cases h3 : (toldF l).1 = sU 0 l
    · simpa [h3] using Ev.now true
    · simp only [h3, if_false, decide_false, Bool.false_or]
      refine Ev.bind (RefSigned_eq l hb hl) ?_
      exact Ev.now _
theorem refZero (l : List Int) (hl : l.length < 9223372036854775807) : ∀ (d i : Nat), l.length - i = d → i ≤ l.length → Ev (fun k => mudlarkref05_Zero.l0 k l (i : Int)) (decide (l.length = 512) && (l.drop i).all (fun x => decide (x = 0)))
  | 0, i, hd, hi => by
    have e : i = l.length := by omega
    subst e
    refine Ev.step (f := fun _ => some ((l.length : Int) == 512)) (fun k => by simp only [mudlarkref05_Zero.l0]; rw [if_neg (by omega)]) ?_
    have e : ((l.length : Int) == 512) = decide (l.length = 512) := by
      rw [Bool.eq_iff_iff, beq_iff_eq, decide_eq_true_eq]; omega
    rw [List.drop_length, e]
    simpa using Ev.now _
  | d + 1, i, hd, hi => by
    have hlt : i < l.length := by omega
    have er : rd l (i : Int) = l[i] := rd_at l i hlt
    have ed : l.drop i = l[i] :: l.drop (i + 1) := List.drop_eq_getElem_cons hlt
    have ih := refZero l hl d (i + 1) (by omega) (by omega)
    rw [ed, List.all_cons]
    by_cases h1 : l[i] = 0
    · refine Ev.step (f := fun k => mudlarkref05_Zero.l0 k l ((i + 1 : Nat) : Int)) (fun k => ?_) (by simpa [h1] using ih)
      simp only [mudlarkref05_Zero.l0]
      rw [if_pos (by omega), if_pos (by omega), er, if_pos h1, next_i i (by omega)]
    · refine Ev.step (f := fun k => some false) (fun k => ?_) (by simpa [h1] using Ev.now false)
      simp only [mudlarkref05_Zero.l0]
      rw [if_pos (by omega), if_pos (by omega), er, if_neg h1]
theorem RefZero_eq (l : List Int) (hl : l.length < 9223372036854775807) : Ev (fun k => mudlarkref05_Zero.f k l) (zeroF l) := by
  have h := refZero l hl l.length 0 (by omega) (by omega)
  rw [List.drop_zero] at h
  exact h

/-- tells: the program and the reference say the same of any bytes. -/
theorem tells_eq (l : List Int) (hb : Bytes l) (hl : l.length ≤ 100000) : Ev (fun k => mudlarklaw05_tells.f k l) true := by
  unfold mudlarklaw05_tells.f
  rw [Told_eq l hb]
  simp only [Option.bind_some]
  refine Ev.bind (f := fun k (bt : Int × Bool) => _) (RefTold_eq l) ?_
  refine Ev.bind (Unsigned_eq l hb hl) ?_
  refine Ev.bind (RefUnsigned_eq l hb hl) ?_
  simp only [if_true]
  refine Ev.bind (Signed_eq l hb hl) ?_
  refine Ev.bind (RefSigned_eq l hb hl) ?_
  simp only [if_true, beq_self_eq_true]
  refine Ev.bind (Right_eq l hb hl) ?_
  refine Ev.bind (RefRight_eq l hb hl) ?_
  simp only [beq_self_eq_true, if_true, Zero_eq, Option.bind_some]
  refine Ev.bind (RefZero_eq l (by omega)) ?_
  simp only [beq_self_eq_true]
  exact Ev.now _
end Go.Proofs.YtmhomfhdelocjaaDoor.P
