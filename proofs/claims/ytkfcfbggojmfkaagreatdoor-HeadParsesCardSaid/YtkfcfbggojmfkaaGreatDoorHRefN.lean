/- The reference's sums and the octal numbers: what they come to. No conditions. What the reference puts: numbers, texts, sums. No conditions. -/
import Derived.Test.YtkfcfbggojmfkaaGreatDoorHSealP
import Derived.Test.YtkfcfbggojmfkaaGreatDoorHRefQ
import Derived.Test.YtkfcfbggojmfkaaGreatDoorHHeadG
section
namespace Go.Proofs.YtkfcfbggojmfkaaGreatDoor.P
open Go.RowKit Go.Shelf Go.Lib Go.Proofs.YtkfcfbggojmfkaaGreatDoorW.PrintWords Go.Proofs.YtkfcfbggojmfkaaGreatDoorW.PrintLast Go.Proofs.YtkfcfbggojmfkaaGreatDoorW.PrintMore
set_option linter.unusedVariables false
set_option linter.unusedSimpArgs false

theorem refU (l : List Int) (hb : Bytes l) (hl : l.length ≤ 100000) : ∀ (d : Nat) (i : Nat) (n : Int), l.length - i = d → i ≤ l.length → 0 ≤ n → n ≤ 255 * i →
  Ev (fun k => mudlarkref05_Unsigned.l0 k l n (i : Int)) (n + sU i (l.drop i))
 | 0, i, n, hd, hi, h0, h1 => by
  have e : i = l.length := by omega
  subst e
  refine Ev.step (f := fun _ => some n) (fun k => by simp only [mudlarkref05_Unsigned.l0]; rw [if_neg (by omega)]) ?_
  rw [List.drop_length]
  simpa [sU] using Ev.now n
 | d + 1, i, n, hd, hi, h0, h1 => by
  have hlt : i < l.length := by omega
  have hxr := hb l[i] (List.getElem_mem _)
  have er : rd l (i : Int) = l[i] := rd_at l i hlt
  have ed : l.drop i = l[i] :: l.drop (i + 1) := List.drop_eq_getElem_cons hlt
  have ew := next_i i (by omega)
  obtain ⟨c, hc⟩ : ∃ c, c = (if 148 ≤ i ∧ i < 156 then 32 else l[i]) := ⟨_, rfl⟩
  have hcb : 0 ≤ c ∧ c ≤ 255 := by rw [hc]; split <;> omega
  have ih := refU l hb hl d (i + 1) (n + c) (by omega) (by omega) (by omega) (by push_cast; omega)
  refine Ev.step (f := fun k => mudlarkref05_Unsigned.l0 k l (n + c) ((i + 1 : Nat) : Int)) (fun k => ?_) ?_
  ·simp only [mudlarkref05_Unsigned.l0]
   rw [if_pos (by omega)]
   by_cases h2 : 148 ≤ i ∧ i < 156
   ·rw [if_pos h2] at hc
    subst hc
    rw [if_pos (by omega), if_pos (by omega), ew, wrap64_id (n + 32) (by omega) (by omega)]
   ·rw [if_neg h2] at hc
    rw [← er] at hc
    subst hc
    rw [ew, wrap64_id (rd l (i : Int)) (by omega) (by omega), wrap64_id (n + rd l (i : Int)) (by omega) (by omega)]
    by_cases h3 : (i : Int) ≥ 148
    ·rw [if_pos h3, if_neg (by omega), if_pos (by omega)]
    ·rw [if_neg h3, if_pos (by omega)]
  ·rw [ed]
   simp only [sU]
   rw [← hc, ← Int.add_assoc]
   exact ih
theorem RefUnsigned_eq (l : List Int) (hb : Bytes l) (hl : l.length ≤ 100000) : Ev (fun k => mudlarkref05_Unsigned.f k l) (sU 0 l) := by
 have h := refU l hb hl l.length 0 0 (by omega) (by omega) (by omega) (by omega)
 rw [List.drop_zero, Int.zero_add] at h
 exact h
theorem refS (l : List Int) (hb : Bytes l) (hl : l.length ≤ 100000) : ∀ (d : Nat) (i : Nat) (n : Int), l.length - i = d → i ≤ l.length → -256 * i ≤ n → n ≤ 25600000 →
  Ev (fun k => mudlarkref05_Signed.l0 k l n (i : Int)) (n + (sS i (l.drop i) - sU i (l.drop i)))
 | 0, i, n, hd, hi, h0, h1 => by
  have e : i = l.length := by omega
  subst e
  refine Ev.step (f := fun _ => some n) (fun k => by simp only [mudlarkref05_Signed.l0]; rw [if_neg (by omega)]) ?_
  rw [List.drop_length]
  simpa [sU, sS] using Ev.now n
 | d + 1, i, n, hd, hi, h0, h1 => by
  have hlt : i < l.length := by omega
  have hxr := hb l[i] (List.getElem_mem _)
  have er : rd l (i : Int) = l[i] := rd_at l i hlt
  have ed : l.drop i = l[i] :: l.drop (i + 1) := List.drop_eq_getElem_cons hlt
  have ew := next_i i (by omega)
  obtain ⟨c, hc⟩ : ∃ c : Int, c = (if 148 ≤ i ∧ i < 156 then 0 else if l[i] > 127 then -256 else 0) := ⟨_, rfl⟩
  have hcb : -256 ≤ c ∧ c ≤ 0 := by
   rw [hc]
   split
   ·omega
   ·split <;> omega
  have ih := refS l hb hl d (i + 1) (n + c) (by omega) (by omega) (by push_cast; omega) (by omega)
  refine Ev.step (f := fun k => mudlarkref05_Signed.l0 k l (n + c) ((i + 1 : Nat) : Int)) (fun k => ?_) ?_
  ·simp only [mudlarkref05_Signed.l0]
   rw [if_pos (by omega), er, ew]
   by_cases h1 : (i : Int) < 148
   ·rw [if_pos h1, if_pos (by omega)]
    rw [if_neg (by omega)] at hc
    by_cases h2 : l[i] > 127
    ·rw [if_pos h2] at hc ⊢
     subst hc
     rw [wrap64_id (n - 256) (by omega) (by omega)]
     rfl
    ·rw [if_neg h2] at hc ⊢
     subst hc
     rw [Int.add_zero]
   ·rw [if_neg h1]
    by_cases h3 : (i : Int) ≥ 156
    ·rw [if_pos h3, if_pos (by omega)]
     rw [if_neg (by omega)] at hc
     by_cases h2 : l[i] > 127
     ·rw [if_pos h2] at hc ⊢
      subst hc
      rw [wrap64_id (n - 256) (by omega) (by omega)]
      rfl
     ·rw [if_neg h2] at hc ⊢
      subst hc
      rw [Int.add_zero]
    ·rw [if_neg h3]
     rw [if_pos (by omega)] at hc
     subst hc
     rw [Int.add_zero]
  ·have e2 : n + (sS i (l.drop i) - sU i (l.drop i)) = n + c + (sS (i + 1) (l.drop (i + 1)) - sU (i + 1) (l.drop (i + 1))) := by
    rw [ed]
    simp only [sU, sS]
    rw [hc]
    by_cases h2 : 148 ≤ i ∧ i < 156
    ·simp only [if_pos h2]; omega
    ·simp only [if_neg h2]
     split <;> omega
   rw [e2]
   exact ih
theorem RefSigned_eq (l : List Int) (hb : Bytes l) (hl : l.length ≤ 100000) : Ev (fun k => mudlarkref05_Signed.f k l) (sS 0 l) := by
 have hu := sU_bound l 0 hb
 have h := refS l hb hl l.length 0 (sU 0 l) (by omega) (by omega) (by omega) (by omega)
 rw [List.drop_zero, show sU 0 l + (sS 0 l - sU 0 l) = sS 0 l by omega] at h
 exact Ev.bind (RefUnsigned_eq l hb hl) h

/-! ### numbers of digits -/
theorem refBlank (l : List Int) (hl : l.length < 9223372036854775807) : ∀ (d i : Nat), l.length - i = d → i ≤ l.length → Ev (fun k => mudlarkref01_blank.l0 k l true (i : Int)) ((l.drop i).all blankB)
 | 0, i, hd, hi => by
  have e : i = l.length := by omega
  subst e
  refine Ev.step (f := fun _ => some true) (fun k => by simp only [mudlarkref01_blank.l0]; rw [if_neg (by omega)]) ?_
  rw [List.drop_length]
  exact Ev.now _
 | d + 1, i, hd, hi => by
  have hlt : i < l.length := by omega
  have er : rd l (i : Int) = l[i] := rd_at l i hlt
  have ed : l.drop i = l[i] :: l.drop (i + 1) := List.drop_eq_getElem_cons hlt
  have ih := refBlank l hl d (i + 1) (by omega) (by omega)
  rw [ed, List.all_cons]
  by_cases h1 : l[i] = 32
  ·refine Ev.step (f := fun k => mudlarkref01_blank.l0 k l true ((i + 1 : Nat) : Int)) (fun k => ?_) (by simpa [blankB, h1] using ih)
   simp only [mudlarkref01_blank.l0]
   rw [if_pos (by omega), if_pos (by omega), er, if_pos h1, next_i i (by omega)]
  ·by_cases h2 : l[i] = 0
   ·refine Ev.step (f := fun k => mudlarkref01_blank.l0 k l true ((i + 1 : Nat) : Int)) (fun k => ?_) (by simpa [blankB, h2] using ih)
    simp only [mudlarkref01_blank.l0]
    rw [if_pos (by omega), if_pos (by omega), er, if_neg h1, if_pos trivial, if_pos h2, next_i i (by omega)]
   ·refine Ev.step (f := fun k => some false) (fun k => ?_) (by simpa [blankB, h1, h2] using Ev.now false)
    simp only [mudlarkref01_blank.l0]
    rw [if_pos (by omega), if_pos (by omega), er, if_neg h1, if_pos trivial, if_neg h2]
theorem RefBlank_eq (l : List Int) (hl : l.length < 9223372036854775807) : Ev (fun k => mudlarkref01_blank.f k l true) (l.all blankB) := by
 have h := refBlank l hl l.length 0 (by omega) (by omega)
 rw [List.drop_zero] at h
 exact h
def octAt (x : List Int) (n : Int) : Int × Bool := if n > 4611686018427387904 then (0, false) else octRes (octLoop x n)
theorem refOther (l : List Int) (hl : l.length < 9223372036854775807) (i : Nat) (n : Int) (hi : i ≤ l.length) (h : (l.drop i).length = 0 ∨ rd (l.drop i) 0 < 48 ∨ 55 < rd (l.drop i) 0) :
  Ev (fun k => mudlarkref01_Octal.j3 k l (i : Int) n false) (octAt (l.drop i) n) := by
 unfold octAt
 rw [octLoop_other _ _ h]
 by_cases h1 : n > 4611686018427387904
 ·rw [if_pos h1]
  refine Ev.step (f := fun _ => some (0, false)) (fun k => ?_) (Ev.now _)
  simp only [mudlarkref01_Octal.j3]
  rw [if_neg (by simp), if_pos h1]
 ·rw [if_neg h1]
  have hb := RefBlank_eq (l.drop i) (by rw [List.length_drop]; omega)
  have hb2 : Ev (fun k => (mudlarkref01_blank.f k (l.drop i) true).bind fun t => if t = true then some (n, true) else some (0, false)) (octRes (some (n, l.drop i))) := by
   refine Ev.bind hb ?_
   simp only [octRes]
   by_cases h2 : (l.drop i).all blankB = true
   ·simp only [h2, if_true]; exact Ev.now _
   ·simp only [if_neg h2]; exact Ev.now _
  refine Ev.step (fun k => ?_) hb2
  simp only [mudlarkref01_Octal.j3]
  rw [if_neg (by simp), if_neg h1, if_pos (by omega), if_pos (by omega), Int.toNat_natCast]
theorem refDigits (l : List Int) (hl : l.length < 9223372036854775807) : ∀ (d i : Nat) (n : Int), l.length - i = d → i ≤ l.length → 0 ≤ n → n ≤ 4611686018427387911 →
  Ev (fun k => mudlarkref01_Octal.l1 k l (i : Int) n) (octAt (l.drop i) n)
 | 0, i, n, hd, hi, h0, h1 => by
  have e : i = l.length := by omega
  subst e
  refine Ev.step (fun k => ?_) (refOther l hl l.length n (Nat.le_refl _) (.inl (by simp)))
  simp only [mudlarkref01_Octal.l1]
  rw [if_neg (by omega)]
 | d + 1, i, n, hd, hi, h0, h1 => by
  have hlt : i < l.length := by omega
  have er : rd l (i : Int) = l[i] := rd_at l i hlt
  have ed : l.drop i = l[i] :: l.drop (i + 1) := List.drop_eq_getElem_cons hlt
  have er2 : rd (l.drop i) 0 = l[i] := by rw [ed]; rfl
  have hdl : 0 < (l.drop i).length := by rw [List.length_drop]; omega
  by_cases h2 : 48 ≤ l[i]
  ·by_cases h3 : l[i] ≤ 55
   ·have hdg : (l.drop i).drop 1 = l.drop (i + 1) := by rw [List.drop_drop]
    have hstep := octLoop_digit (l.drop i) n hdl (by rw [er2]; exact h2) (by rw [er2]; exact h3)
    rw [er2, hdg] at hstep
    by_cases h4 : n > 576460752303423488
    ·have e : octAt (l.drop i) n = (0, false) := by
      unfold octAt
      by_cases h5 : n > 4611686018427387904
      ·rw [if_pos h5]
      ·rw [if_neg h5, hstep, if_pos (.inl h4)]; rfl
     rw [e]
     refine Ev.step (f := fun k => mudlarkref01_Octal.j3 k l (i : Int) n true) (fun k => ?_) (Ev.step (f := fun _ => some (0, false)) (fun k => ?_) (Ev.now _))
     ·simp only [mudlarkref01_Octal.l1]
      rw [if_pos (by omega), if_pos (by omega), er, if_pos h2, show decide (l[i] ≤ 55) = true from decide_eq_true h3]
     ·simp only [mudlarkref01_Octal.j3]
      rw [if_pos trivial, if_pos h4]
    ·have ih := refDigits l hl d (i + 1) (8 * n + (l[i] - 48)) (by omega) (by omega) (by omega) (by omega)
     have e : octAt (l.drop i) n = octAt (l.drop (i + 1)) (8 * n + (l[i] - 48)) := by
      unfold octAt
      rw [if_neg (by omega), hstep]
      by_cases h5 : 8 * n + (l[i] - 48) > 4611686018427387904
      ·rw [if_pos (.inr h5), if_pos h5]; rfl
      ·rw [if_neg (by omega), if_neg h5]
     rw [e]
     refine Ev.step (f := fun k => mudlarkref01_Octal.j3 k l (i : Int) n true) (fun k => ?_) (Ev.step (fun k => ?_) ih)
     ·simp only [mudlarkref01_Octal.l1]
      rw [if_pos (by omega), if_pos (by omega), er, if_pos h2, show decide (l[i] ≤ 55) = true from decide_eq_true h3]
     ·simp only [mudlarkref01_Octal.j3]
      rw [if_pos trivial, if_neg h4, if_pos (by omega), if_pos (by omega), er, next_i i (by omega), wrap64_id (8 * n) (by omega) (by omega), wrap64_id l[i] (by omega) (by omega), wrap64_id (8 * n + l[i]) (by omega) (by omega), wrap64_id _ (by omega) (by omega)]
      congr 1
      omega
   ·refine Ev.step (fun k => ?_) (refOther l hl i n hi (.inr (.inr (by rw [er2]; omega))))
    simp only [mudlarkref01_Octal.l1]
    rw [if_pos (by omega), if_pos (by omega), er, if_pos h2, show decide (l[i] ≤ 55) = false from decide_eq_false h3]
  ·refine Ev.step (fun k => ?_) (refOther l hl i n hi (.inr (.inl (by rw [er2]; omega))))
   simp only [mudlarkref01_Octal.l1]
   rw [if_pos (by omega), if_pos (by omega), er, if_neg h2]
theorem refSkip (l : List Int) (hl : l.length < 9223372036854775807) : ∀ (d i : Nat), l.length - i = d → i ≤ l.length →
  Ev (fun k => mudlarkref01_Octal.l0 k l (i : Int)) (octRes (octLoop ((l.drop i).dropWhile (fun x => decide (x = 32))) 0))
 | 0, i, hd, hi => by
  have e : i = l.length := by omega
  subst e
  have h := refDigits l hl 0 l.length 0 (by omega) (by omega) (by omega) (by omega)
  refine Ev.step (f := fun k => mudlarkref01_Octal.j1 k l (l.length : Int)) (fun k => ?_) (Ev.step (fun k => ?_) (by simpa [octAt] using h))
  ·simp only [mudlarkref01_Octal.l0]
   rw [if_neg (by omega)]
  ·rfl
 | d + 1, i, hd, hi => by
  have hlt : i < l.length := by omega
  have er : rd l (i : Int) = l[i] := rd_at l i hlt
  have ed : l.drop i = l[i] :: l.drop (i + 1) := List.drop_eq_getElem_cons hlt
  by_cases h1 : l[i] = 32
  ·have ih := refSkip l hl d (i + 1) (by omega) (by omega)
   refine Ev.step (fun k => ?_) (by rw [ed, List.dropWhile_cons_of_pos (by simpa using h1)]; exact ih)
   simp only [mudlarkref01_Octal.l0]
   rw [if_pos (by omega), if_pos (by omega), er, if_pos h1, next_i i (by omega)]
  ·have h := refDigits l hl (d + 1) i 0 (by omega) (by omega) (by omega) (by omega)
   have e : (l.drop i).dropWhile (fun x => decide (x = 32)) = l.drop i := by rw [ed, List.dropWhile_cons_of_neg (by simpa using h1)]
   rw [e]
   refine Ev.step (f := fun k => mudlarkref01_Octal.j1 k l (i : Int)) (fun k => ?_) (Ev.step (fun k => ?_) (by simpa [octAt] using h))
   ·simp only [mudlarkref01_Octal.l0]
    rw [if_pos (by omega), if_pos (by omega), er, if_neg h1]
   ·rfl
theorem RefOctal_eq (l : List Int) (hl : l.length < 9223372036854775807) : Ev (fun k => mudlarkref01_Octal.f k l) (octF l) := by
 have h := refSkip l hl l.length 0 (by omega) (by omega)
 rw [List.drop_zero] at h
 exact h

/-! ### PutOctal, Seal -/
theorem RefTold_eq (l : List Int) : Ev (fun k => mudlarkref05_Told.f k l) (toldF l) := by
 unfold mudlarkref05_Told.f toldF
 by_cases h : l.length = 512
 ·have c1 : (l.length : Int) = 512 := by omega
  have c2 : (156 : Int) ≤ (l.length : Int) := by omega
  simp only [if_pos c1, if_pos c2, if_pos h, show (148 : Int) ≤ 156 by decide, if_true]
  refine Ev.bind (f := fun k (bt : Int × Bool) => some (bt.1, bt.2)) (RefOctal_eq ((l.take 156).drop 148) (by rw [List.length_drop, List.length_take]; omega)) ?_
  exact Ev.now _
 ·have c1 : ¬ (l.length : Int) = 512 := by omega
  simp only [if_neg c1, if_neg h]
  exact Ev.now _
theorem RefRight_eq (l : List Int) (hb : Bytes l) (hl : l.length ≤ 100000) : Ev (fun k => mudlarkref05_Right.f k l) (rightF l) := by
 unfold mudlarkref05_Right.f
 refine Ev.bind (f := fun k (bt : Int × Bool) => if bt.2 = true then ((mudlarkref05_Unsigned.f k l).bind fun t => if bt.1 = t then some true else ((mudlarkref05_Signed.f k l).bind fun t' => some (bt.1 == t'))) else some false) (RefTold_eq l) ?_
 unfold rightF
 cases h2 : (toldF l).2 with
 | false => simpa using Ev.now false
 | true =>
  simp only [if_true, Bool.true_and]
  refine Ev.bind (RefUnsigned_eq l hb hl) ?_
  by_cases h3 : (toldF l).1 = sU 0 l
  ·simpa [h3] using Ev.now true
  ·simp only [h3, if_false, decide_false, Bool.false_or]
   refine Ev.bind (RefSigned_eq l hb hl) ?_
   exact Ev.now _
end Go.Proofs.YtkfcfbggojmfkaaGreatDoor.P
end

section
namespace Go.Proofs.YtkfcfbggojmfkaaGreatDoor.P
open Go.RowKit Go.Shelf Go.Lib Go.Proofs.YtkfcfbggojmfkaaGreatDoorW.PrintWords Go.Proofs.YtkfcfbggojmfkaaGreatDoorW.PrintLast Go.Proofs.YtkfcfbggojmfkaaGreatDoorW.PrintMore
set_option linter.unusedVariables false
set_option linter.unusedSimpArgs false

theorem refPut (size : Nat) (hs2 : size ≤ 32) : ∀ (d : Nat) (n : Int) (tail : List Int), d ≤ size → 0 ≤ n → n ≤ 4611686018427387904 →
  Ev (fun k => mudlarkref01_PutOctal.l0 k n (List.replicate d 0 ++ tail) ((d : Int) - 1)) (if n / 8 ^ d > 0 then ([], false) else (digs d n ++ tail, true))
 | 0, n, tail, hd, h0, h1 => by
  refine Ev.step (f := fun _ => some (if n / 8 ^ 0 > 0 then ([], false) else (digs 0 n ++ tail, true))) (fun k => ?_) (Ev.now _)
  simp only [mudlarkref01_PutOctal.l0]
  rw [if_neg (by omega)]
  simp only [Int.pow_zero, Int.ediv_one, digs, List.nil_append, List.replicate_zero]
  split <;> rfl
 | d + 1, n, tail, hd, h0, h1 => by
  have ih := refPut size hs2 d (n / 8) ((48 + n % 8) :: tail) (by omega) (by omega) (by omega)
  have e1 : ((d + 1 : Nat) : Int) - 1 = (d : Int) := by omega
  have e2 : wrap64 (48 + Int.tmod n 8) % 256 = 48 + n % 8 := by
   rw [Int.tmod_eq_emod_of_nonneg h0, wrap64_id _ (by omega) (by omega)]
   omega
  have e3 : wrap64 (Int.tdiv n 8) = n / 8 := by
   rw [Int.tdiv_eq_ediv_of_nonneg h0, wrap64_id _ (by omega) (by omega)]
  have e5 : (if n / 8 ^ (d + 1) > 0 then (([], false) : List Int × Bool) else (digs (d + 1) n ++ tail, true)) = (if n / 8 / 8 ^ d > 0 then ([], false) else (digs d (n / 8) ++ ((48 + n % 8) :: tail), true)) := by
   rw [show n / 8 / 8 ^ d = n / 8 ^ (d + 1) by rw [Int.pow_succ', Int.ediv_ediv_of_nonneg (by omega)]]
   simp only [digs, List.append_assoc, List.singleton_append]
  rw [e5, e1]
  refine Ev.step (fun k => ?_) ih
  simp only [mudlarkref01_PutOctal.l0]
  rw [if_pos (by omega), if_pos (by omega), if_pos (by simp; omega), e2, e3, Int.toNat_natCast, set_at_end, wrap64_id ((d : Int) - 1) (by omega) (by omega)]
theorem RefPutOctal_eq (n : Int) (size : Nat) (hs : 2 ≤ size) (hs2 : size ≤ 32) (h0 : 0 ≤ n) (h1 : n ≤ 4611686018427387904) :
  Ev (fun k => mudlarkref01_PutOctal.f k n (size : Int)) (if n / 8 ^ (size - 1) > 0 then ([], false) else (digs (size - 1) n ++ [0], true)) := by
 have h := refPut size hs2 (size - 1) n [0] (by omega) h0 h1
 have e : List.replicate (size - 1) (0 : Int) ++ [0] = List.replicate size 0 := by
  rw [← List.replicate_succ']; congr 1; omega
 rw [e] at h
 have hj : Ev (fun k => mudlarkref01_PutOctal.j0 k n (size : Int) false) (if n / 8 ^ (size - 1) > 0 then ([], false) else (digs (size - 1) n ++ [0], true)) := by
  refine Ev.step (fun k => ?_) h
  simp only [mudlarkref01_PutOctal.j0]
  rw [if_neg (by simp), if_pos (by omega), if_pos (by omega), Int.toNat_natCast, wrap64_id _ (by omega) (by omega)]
  congr 1
  omega
 refine Ev.congr (fun k => ?_) hj
 unfold mudlarkref01_PutOctal.f
 rw [if_neg (by omega), if_neg (by omega), if_neg (by omega), show decide (n > 4611686018427387904) = false from decide_eq_false (by omega)]

/-! ### bits -/
theorem refBinLoop (l : List Int) (hb : Bytes l) (hl : l.length < 9223372036854775807) : ∀ (d i : Nat) (n : Int), l.length - i = d → i ≤ l.length →
  Ev (fun k => mudlarkref01_Binary.l0 k l n (i : Int)) (binLoop n (l.drop i))
 | 0, i, n, hd, hi => by
  have e : i = l.length := by omega
  subst e
  rw [List.drop_length]
  refine Ev.step (f := fun _ => some (binLoop n [])) (fun k => ?_) (Ev.now _)
  simp only [mudlarkref01_Binary.l0, binLoop, binEnd]
  rw [if_neg (by omega)]
  split
  ·rfl
  ·split <;> rfl
 | d + 1, i, n, hd, hi => by
  have hlt : i < l.length := by omega
  have hxr := hb l[i] (List.getElem_mem _)
  have er : rd l (i : Int) = l[i] := by simp [rd, hlt]
  have ed : l.drop i = l[i] :: l.drop (i + 1) := List.drop_eq_getElem_cons hlt
  rw [ed, binLoop]
  by_cases h1 : n > 18014398509481984
  ·rw [if_pos h1]
   refine Ev.step (f := fun _ => some (0, false)) (fun k => ?_) (Ev.now _)
   simp only [mudlarkref01_Binary.l0]
   rw [if_pos (by omega), if_pos h1]
  ·rw [if_neg h1]
   by_cases h2 : n < -18014398509481985
   ·rw [if_pos h2]
    refine Ev.step (f := fun _ => some (0, false)) (fun k => ?_) (Ev.now _)
    simp only [mudlarkref01_Binary.l0]
    rw [if_pos (by omega), if_neg h1, if_pos h2]
   ·rw [if_neg h2]
    have ih := refBinLoop l hb hl d (i + 1) (n * 256 + l[i]) (by omega) (by omega)
    refine Ev.step (fun k => ?_) ih
    simp only [mudlarkref01_Binary.l0]
    rw [if_pos (by omega), if_neg h1, if_neg h2, if_pos (by omega), er, next_i i (by omega), wrap64_id (256 * n) (by omega) (by omega), wrap64_id l[i] (by omega) (by omega), wrap64_id _ (by omega) (by omega), Int.mul_comm 256 n]
theorem RefBinary_eq (l : List Int) (hb : Bytes l) (hl : l.length < 9223372036854775807) : Ev (fun k => mudlarkref01_Binary.f k l) (binF l) := by
 match l, hb, hl with
 | [], _, _ =>
  have hn : Ev (fun k => mudlarkref01_Binary.j0 k [] true) ((0 : Int), false) := Ev.step (f := fun _ => some ((0 : Int), false)) (fun k => by simp only [mudlarkref01_Binary.j0, if_true]) (Ev.now _)
  refine Ev.congr (fun k => ?_) hn
  unfold mudlarkref01_Binary.f; rw [if_pos (by simp)]
 | c :: r, hb, hl =>
  have hc := hb c (List.mem_cons_self ..)
  have e0 : rd (c :: r) 0 = c := by simp [rd]
  refine Ev.congr (f := fun k => mudlarkref01_Binary.j0 k (c :: r) (decide (c < 128))) (fun k => ?_) ?_
  ·unfold mudlarkref01_Binary.f; rw [if_neg (by simp only [List.length_cons]; omega), if_pos (by simp only [List.length_cons]; omega), e0]
  ·show Ev _ (if c < 128 then (0, false) else binLoop (binTop c) r)
   by_cases h : c < 128
   ·rw [if_pos h, decide_eq_true h]
    refine Ev.step (f := fun _ => some ((0 : Int), false)) (fun k => ?_) (Ev.now _)
    simp only [mudlarkref01_Binary.j0, if_true]
   ·rw [if_neg h, decide_eq_false h]
    have hL := refBinLoop (c :: r) hb hl ((c :: r).length - 1) 1 (binTop c) rfl (by simp only [List.length_cons]; omega)
    have hj : Ev (fun k => mudlarkref01_Binary.j1 k (c :: r) (binTop c)) (binLoop (binTop c) r) := by
     refine Ev.step (fun k => ?_) hL
     simp only [mudlarkref01_Binary.j1]
     rfl
    refine Ev.step (fun k => ?_) hj
    simp only [mudlarkref01_Binary.j0]
    rw [if_neg (by simp), if_pos (by simp only [List.length_cons]; omega), e0, wrap64_id c (by omega) (by omega), wrap64_id (c - 128) (by omega) (by omega), wrap64_id (c - 128 - 128) (by omega) (by omega)]
    unfold binTop
    by_cases h3 : c < 192
    ·rw [if_neg (by omega), if_pos h3]
    ·rw [if_pos (by omega), if_neg h3, show c - 128 - 128 = c - 256 by omega]
theorem tmod256 (n : Int) : (Int.tmod n 256 < 0 → Int.tmod n 256 + 256 = n % 256) ∧ (¬ Int.tmod n 256 < 0 → Int.tmod n 256 = n % 256) ∧ -256 < Int.tmod n 256 ∧ Int.tmod n 256 < 256 := by
 rcases Int.lt_or_le n 0 with h | h
 ·have e : Int.tmod n 256 = -((-n) % 256) := by
   rw [← Int.tmod_eq_emod_of_nonneg (show 0 ≤ -n by omega), Int.neg_tmod, Int.neg_neg]
  rw [e]; omega
 ·rw [Int.tmod_eq_emod_of_nonneg h]; omega
theorem exact256 (n : Int) : Int.tdiv (n - n % 256) 256 = n / 256 := by
 have e : n - n % 256 = 256 * (n / 256) := by omega
 rw [e, Int.mul_tdiv_cancel_left _ (by decide)]
theorem refPutEnd (x0 x7 : Int) (size : Nat) (l : List Int) (hb : Bytes l) (hl : l.length = size) (hs : 2 ≤ size) (hs2 : size ≤ 32) :
  Ev (fun k => mudlarkref01_PutBinary.l0 k x0 l x7 (-1)) (if (binF (raise128 l)).2 = true then (if (binF (raise128 l)).1 = x0 then (raise128 l, true) else ([], false)) else ([], false)) := by
 match l, hb, hl with
 | [], _, hl => simp at hl; omega
 | c :: r, hb, hl =>
  have hc := hb c (List.mem_cons_self ..)
  have e0 : rd (c :: r) 0 = c := by simp [rd]
  have eo : (Int.tmod c 128 + 128) % 256 = c % 128 + 128 := by rw [Int.tmod_eq_emod_of_nonneg hc.1]; omega
  have hB := RefBinary_eq (raise128 (c :: r)) (raise_bytes hb) (by rw [raise_length, hl]; omega)
  refine Ev.step (fun k => ?_) (Ev.bind (f := fun k t => if t.2 = true then (if t.1 = x0 then some (raise128 (c :: r), true) else some (([] : List Int), false)) else some (([] : List Int), false)) hB ?_)
  ·simp only [mudlarkref01_PutBinary.l0]
   rw [if_neg (by omega), if_pos (by simp only [List.length_cons]; omega), e0, eo]
   rfl
  ·split
   ·split
    ·exact Ev.now _
    ·exact Ev.now _
   ·exact Ev.now _
theorem refPutBin (x0 : Int) (size : Nat) (hs : 2 ≤ size) (hs2 : size ≤ 32) : ∀ (d : Nat) (n : Int) (tail : List Int), tail.length + d = size → Bytes tail → -9223372036854775808 ≤ n → n ≤ 9223372036854775807 →
  Ev (fun k => mudlarkref01_PutBinary.l0 k x0 (List.replicate d 0 ++ tail) n ((d : Int) - 1)) (if (binF (raise128 (bdigs d n ++ tail))).2 = true then (if (binF (raise128 (bdigs d n ++ tail))).1 = x0 then (raise128 (bdigs d n ++ tail), true) else ([], false)) else ([], false))
 | 0, n, tail, ht, hb, h0, h1 => by
  simp only [bdigs, List.nil_append, List.replicate_zero]
  exact refPutEnd x0 n size tail hb (by omega) hs hs2
 | d + 1, n, tail, ht, hb, h0, h1 => by
  have hb' : Bytes ((n % 256) :: tail) := fun x hx => by
   rcases List.mem_cons.1 hx with rfl | hx
   ·omega
   ·exact hb x hx
  have ih := refPutBin x0 size hs hs2 d (n / 256) ((n % 256) :: tail) (by simp only [List.length_cons]; omega) hb' (by omega) (by omega)
  have e1 : ((d + 1 : Nat) : Int) - 1 = (d : Int) := by omega
  have e2 : wrap64 ((d : Int) - 1) = (d : Int) - 1 := wrap64_id _ (by omega) (by omega)
  have e5 : bdigs (d + 1) n ++ tail = bdigs d (n / 256) ++ ((n % 256) :: tail) := by simp only [bdigs, List.append_assoc, List.singleton_append]
  have ht := tmod256 n
  have hx := exact256 n
  have e6 : wrap64 (n - n % 256) = n - n % 256 := wrap64_id _ (by omega) (by omega)
  have e7 : wrap64 (n / 256) = n / 256 := wrap64_id _ (by omega) (by omega)
  have e8 : n % 256 % 256 = n % 256 := by omega
  rw [e5, e1]
  refine Ev.step (fun k => ?_) ih
  simp only [mudlarkref01_PutBinary.l0]
  rw [if_pos (by omega), e2]
  by_cases h : Int.tmod n 256 < 0
  ·have e9 : wrap64 (Int.tmod n 256 + 256) = n % 256 := by rw [ht.1 h]; exact wrap64_id _ (by omega) (by omega)
   rw [if_pos h, if_pos (by omega), if_pos (by simp; omega), e9, e8, e6, hx, e7, Int.toNat_natCast, set_at_end]
  ·rw [if_neg h, if_pos (by omega), if_pos (by simp; omega), ht.2.1 h, e8, e6, hx, e7, Int.toNat_natCast, set_at_end]
theorem RefPutBinary_eq (n size : Int) (h0 : -9223372036854775808 ≤ n) (h1 : n ≤ 9223372036854775807) : Ev (fun k => mudlarkref01_PutBinary.f k n size) (putBinF n size) := by
 have hno : Ev (fun k => mudlarkref01_PutBinary.j0 k n size true) (([], false) : List Int × Bool) := by
  refine Ev.step (f := fun _ => some (([] : List Int), false)) (fun k => ?_) (Ev.now _)
  simp only [mudlarkref01_PutBinary.j0, if_true]
 unfold putBinF
 by_cases hs : 2 ≤ size ∧ size ≤ 32
 ·rw [if_pos hs]
  obtain ⟨m, rfl⟩ := Int.eq_ofNat_of_zero_le (show 0 ≤ size by omega)
  rw [Int.toNat_natCast]
  have hL := refPutBin n m (by omega) (by omega) m n [] (by simp) (fun x hx => by simp at hx) h0 h1
  simp only [List.append_nil] at hL
  have hj : Ev (fun k => mudlarkref01_PutBinary.j0 k n (m : Int) false) (putBin n m) := by
   refine Ev.step (fun k => ?_) hL
   simp only [mudlarkref01_PutBinary.j0]
   rw [if_neg (by simp), if_pos (by omega), if_pos (by omega), Int.toNat_natCast, wrap64_id _ (by omega) (by omega)]
  refine Ev.congr (fun k => ?_) hj
  unfold mudlarkref01_PutBinary.f
  rw [if_neg (by omega), decide_eq_false (by omega)]
 ·rw [if_neg hs]
  refine Ev.congr (fun k => ?_) hno
  unfold mudlarkref01_PutBinary.f
  by_cases h2 : size < 2
  ·rw [if_pos h2]
  ·rw [if_neg h2, decide_eq_true (by omega)]
theorem RefPutOctal_all (n size : Int) : Ev (fun k => mudlarkref01_PutOctal.f k n size) (putOctF n size) := by
 have hno : Ev (fun k => mudlarkref01_PutOctal.j0 k n size true) (([], false) : List Int × Bool) := by
  refine Ev.step (f := fun _ => some (([] : List Int), false)) (fun k => ?_) (Ev.now _)
  simp only [mudlarkref01_PutOctal.j0, if_true]
 unfold putOctF
 by_cases h : 2 ≤ size ∧ size ≤ 32 ∧ 0 ≤ n ∧ n ≤ 4611686018427387904
 ·rw [if_pos h]
  obtain ⟨m, rfl⟩ := Int.eq_ofNat_of_zero_le (show 0 ≤ size by omega)
  rw [Int.toNat_natCast]
  exact RefPutOctal_eq n m (by omega) (by omega) (by omega) (by omega)
 ·rw [if_neg h]
  refine Ev.congr (fun k => ?_) hno
  unfold mudlarkref01_PutOctal.f
  by_cases h1 : size < 2
  ·rw [if_pos h1]
  ·rw [if_neg h1]
   by_cases h2 : size > 32
   ·rw [if_pos h2]
   ·rw [if_neg h2]
    by_cases h3 : n < 0
    ·rw [if_pos h3]
    ·rw [if_neg h3, decide_eq_true (by omega)]
theorem RefPut_eq (n size : Int) (h0 : -9223372036854775808 ≤ n) (h1 : n ≤ 9223372036854775807) : Ev (fun k => mudlarkref01_Put.f k n size) (putF n size) := by
 refine Ev.congr (fun k => rfl) (Ev.bind (g := fun k => mudlarkref01_PutOctal.f k n size) (f := fun k (t : List Int × Bool) => if t.2 = true then some (t.1, true) else ((mudlarkref01_PutBinary.f k n size).bind fun b => some (b.1, b.2))) (RefPutOctal_all n size) ?_)
 unfold putF
 by_cases h : (putOctF n size).2 = true
 ·simp only [if_pos h]; exact Ev.now _
 ·simp only [if_neg h]
  exact Ev.bind (RefPutBinary_eq n size h0 h1) (Ev.now _)
theorem set_mid (a : List Int) (x v : Int) (b : List Int) (i : Nat) (h : i = a.length) : (a ++ x :: b).set i v = a ++ v :: b := by
 subst h
 rw [List.set_append_right _ _ (Nat.le_refl _), Nat.sub_self, List.set_cons_zero]
theorem refSealDigits (x dg : List Int) (hx : x.length = 512) (hd : dg.length = 7) : ∀ (d i : Nat), 7 - i = d → i ≤ 7 →
  Ev (fun k => mudlarkref05_Seal.l1 k (x.take 148 ++ dg.take i ++ x.drop (148 + i)) dg (i : Int)) (x.take 148 ++ dg ++ [32] ++ x.drop 156)
 | 0, i, hdi, hi => by
  obtain rfl : i = 7 := by omega
  refine Ev.step (f := fun _ => some (x.take 148 ++ dg ++ [32] ++ x.drop 156)) (fun k => ?_) (Ev.now _)
  simp only [mudlarkref05_Seal.l1]
  have e : dg.take 7 = dg := List.take_of_length_le (by omega)
  rw [if_neg (by omega), e]
  have e2 : x.drop (148 + 7) = x[155] :: x.drop 156 := List.drop_eq_getElem_cons (by omega)
  rw [e2]
  have e3 : (x.take 148 ++ dg).length = 155 := by rw [List.length_append, List.length_take, hd, hx]; rfl
  rw [if_pos (by rw [List.length_append, e3, List.length_cons]; omega)]
  rw [show ((155 : Int)).toNat = 155 from rfl, set_mid _ _ _ _ 155 e3.symm]
  simp
 | d + 1, i, hdi, hi => by
  have ih := refSealDigits x dg hx hd d (i + 1) (by omega) (by omega)
  refine Ev.step (fun k => ?_) ih
  have hi7 : i < dg.length := by omega
  have e2 : x.drop (148 + i) = x[148 + i] :: x.drop (148 + (i + 1)) := List.drop_eq_getElem_cons (by omega)
  have e3 : (x.take 148 ++ dg.take i).length = 148 + i := by rw [List.length_append, List.length_take, List.length_take, hd, hx]; omega
  have e4 : wrap64 (148 + (i : Int)) = ((148 + i : Nat) : Int) := by rw [wrap64_id _ (by omega) (by omega)]; push_cast; rfl
  simp only [mudlarkref05_Seal.l1]
  rw [if_pos (by omega), if_pos (by omega), if_pos (by omega), e4, if_pos (by omega), e2]
  rw [if_pos (by rw [List.length_append, e3, List.length_cons, List.length_drop]; omega), Int.toNat_natCast, set_mid _ _ _ _ (148 + i) e3.symm, next_i i (by omega), rd_at dg i hi7]
  congr 1
  rw [List.take_succ_eq_append_getElem hi7]
  simp only [List.append_assoc, List.singleton_append, List.cons_append, List.nil_append]
theorem refSealCopy (l : List Int) (hb : Bytes l) (hl : l.length < 9223372036854775807) : ∀ (d i : Nat), 512 - i = d → i ≤ 512 → i ≤ l.length →
  Ev (fun k => mudlarkref05_Seal.l0 k l (l.take i ++ List.replicate (512 - i) 0) (i : Int)) (sealF l) := by
 have hjoin : ∀ i : Nat, (i = l.length ∨ i = 512) → i ≤ 512 → i ≤ l.length → Ev (fun k => mudlarkref05_Seal.j1 k (l.take i ++ List.replicate (512 - i) 0)) (sealF l) := by
  intro i hi h5 hil
  have ex : l.take i ++ List.replicate (512 - i) 0 = padF l := by
   unfold padF
   rcases hi with rfl | rfl
   ·rw [List.take_length, List.take_of_length_le h5]
   ·rw [show 512 - l.length = 0 by omega]
  rw [ex]
  have hpl := padF_length l
  have hpb := padF_bytes l hb
  have hsb := sU_bound (padF l) 0 hpb
  have hq : ¬ (sU 0 (padF l) / 8 ^ (7 - 1) > 0) := by
   have e : (8 : Int) ^ (7 - 1) = 262144 := by decide
   rw [e]
   omega
  have hP := RefPutOctal_eq (sU 0 (padF l)) 7 (by omega) (by omega) hsb.1 (by omega)
  rw [if_neg hq] at hP
  have hd := refSealDigits (padF l) (digs 6 (sU 0 (padF l)) ++ [0]) hpl (by rw [List.length_append, digs_length]; rfl) 7 0 (by omega) (by omega)
  rw [List.take_zero, List.append_nil, show 148 + 0 = 148 from rfl, List.take_append_drop] at hd
  refine Ev.step (fun k => ?_) (Ev.bind (f := fun k n => (mudlarkref01_PutOctal.f k n 7).bind fun bt => mudlarkref05_Seal.l1 k (padF l) bt.1 0) (RefUnsigned_eq (padF l) hpb (by omega)) (Ev.bind (f := fun k (bt : List Int × Bool) => mudlarkref05_Seal.l1 k (padF l) bt.1 0) hP hd))
  rfl
 intro d
 induction d with
 | zero =>
  intro i hd hi hil
  obtain rfl : i = 512 := by omega
  refine Ev.step (fun k => ?_) (hjoin 512 (.inr rfl) hi hil)
  simp only [mudlarkref05_Seal.l0]
  by_cases h : ((512 : Nat) : Int) < (l.length : Int)
  ·rw [if_pos h, if_neg (by omega)]
  ·rw [if_neg h]
 | succ d ih =>
  intro i hd hi hil
  by_cases h : i = l.length
  ·refine Ev.step (fun k => ?_) (hjoin i (.inl h) hi hil)
   simp only [mudlarkref05_Seal.l0]
   rw [if_neg (by omega)]
  ·have hlt : i < l.length := by omega
   refine Ev.step (fun k => ?_) (ih (i + 1) (by omega) (by omega) (by omega))
   simp only [mudlarkref05_Seal.l0]
   have e : 512 - i = (512 - (i + 1)) + 1 := by omega
   have e3 : (l.take i).length = i := by rw [List.length_take]; omega
   rw [if_pos (by omega), if_pos (by omega), if_pos (by omega), e, List.replicate_succ, if_pos (by rw [List.length_append, e3, List.length_cons, List.length_replicate]; omega), Int.toNat_natCast, set_mid _ _ _ _ i e3.symm, next_i i (by omega), rd_at l i hlt]
   congr 1
   rw [List.take_succ_eq_append_getElem hlt]
   simp only [List.append_assoc, List.singleton_append, List.cons_append, List.nil_append]
theorem RefSeal_eq (l : List Int) (hb : Bytes l) (hl : l.length < 9223372036854775807) : Ev (fun k => mudlarkref05_Seal.f k l) (sealF l) := by
 have h := refSealCopy l hb hl 512 0 (by omega) (by omega) (by omega)
 rw [List.take_zero, List.nil_append] at h
 refine Ev.congr (fun k => ?_) h
 unfold mudlarkref05_Seal.f
 rw [if_pos (by decide)]
 rfl

/-! ### Told, Right, Zero -/


theorem bt_at (s : ByteArray) (i : Nat) (h : i < s.data.toList.length) : bt s (i : Int) = ((s.data.toList[i]).toNat : Int) := by
 have h2 : i < s.size := by rw [Lib.size_eq]; exact h
 simp only [bt]
 rw [Int.toNat_natCast, dif_pos h2]
 rfl
theorem numsL_at (s : ByteArray) (i : Nat) (h : i < s.size) : ∃ h2 : i < (numsL s).length, (numsL s)[i] = bt s (i : Int) := by
 have hl := numsL_length s
 have hz := Lib.size_eq s
 refine ⟨by omega, ?_⟩
 rw [Go.Proofs.YtkfcfbggojmfkaaGreatDoor.P.bt_at s i (by omega)]
 simp [numsL]
theorem ix_nums (s : ByteArray) : (Lib.indexByte s.data.toList 0 ≥ 0) ↔ ∃ i, ∃ h : i < s.size, bt s (i : Int) = 0 := by
 have hz := Lib.size_eq s
 constructor
 ·intro h
  obtain ⟨o, ho⟩ := Int.eq_ofNat_of_zero_le h
  have := (Lib.indexByte_some ho).1
  obtain ⟨h1, h2⟩ := List.getElem?_eq_some_iff.1 this
  exact ⟨o, by omega, by rw [Go.Proofs.YtkfcfbggojmfkaaGreatDoor.P.bt_at s o h1, h2]; rfl⟩
 ·rintro ⟨i, h, hb⟩
  rcases Int.lt_or_le (Lib.indexByte s.data.toList 0) 0 with h1 | h1
  ·have h2 := Lib.indexByte_ge s.data.toList 0
   have h3 : Lib.indexByte s.data.toList 0 = -1 := by omega
   have h4 := Lib.indexByte_none h3 i
   exfalso
   apply h4
   rw [Go.Proofs.YtkfcfbggojmfkaaGreatDoor.P.bt_at s i (by omega)] at hb
   rw [List.getElem?_eq_getElem (by omega)]
   congr 1
   exact UInt8.toNat_inj.1 (by simpa using hb)
  ·exact h1
theorem refPutS (s : ByteArray) (n : Nat) (hn : s.size ≤ n) (hs : s.size ≤ 4294967296) : ∀ (d i : Nat), s.size - i = d → i ≤ s.size → (∀ j, j < i → bt s (j : Int) ≠ 0) →
  Ev (fun k => mudlarkref02_Put.l0 k s ((numsL s).take i ++ List.replicate (n - i) 0) (i : Int)) (if ∃ j, ∃ h : j < s.size, bt s (j : Int) = 0 then ([], false) else (numsL s ++ List.replicate (n - s.size) 0, true))
 | 0, i, hd, hi, hz => by
  obtain rfl : i = s.size := by omega
  have hl := numsL_length s
  rw [if_neg (fun ⟨j, h, hb⟩ => hz j h hb)]
  rw [List.take_of_length_le (by omega)]
  refine Ev.step (f := fun _ => some (numsL s ++ List.replicate (n - s.size) 0, true)) (fun k => ?_) (Ev.now _)
  simp only [mudlarkref02_Put.l0]
  rw [if_neg (by omega)]
 | d + 1, i, hd, hi, hz => by
  have hlt : i < s.size := by omega
  have hl := numsL_length s
  obtain ⟨h2, hv⟩ := numsL_at s i hlt
  have c1 : (i : Int) < (s.size : Int) := by omega
  have c2 : (0 : Int) ≤ (i : Int) := by omega
  by_cases h : bt s (i : Int) = 0
  ·rw [if_pos ⟨i, hlt, h⟩]
   refine Ev.step (f := fun _ => some ([], false)) (fun k => ?_) (Ev.now _)
   simp only [mudlarkref02_Put.l0]
   rw [if_pos c1, if_pos c2, if_pos h]
  ·have ih := refPutS s n hn hs d (i + 1) (by omega) (by omega) (fun j hj => by
    rcases Nat.lt_or_ge j i with h3 | h3
    ·exact hz j h3
    ·obtain rfl : j = i := by omega
     exact h)
   have e : ((numsL s).take i ++ List.replicate (n - i) 0).set i (bt s (i : Int)) = (numsL s).take (i + 1) ++ List.replicate (n - (i + 1)) 0 := by
    have hm : n - i = (n - (i + 1)) + 1 := by omega
    rw [hm, List.replicate_succ, List.set_append_right _ _ (by rw [List.length_take]; omega), List.length_take, Nat.min_eq_left (by omega), Nat.sub_self, List.set_cons_zero, List.take_succ_eq_append_getElem h2, hv, List.append_assoc]
    rfl
   have c3 : (i : Int) < (((numsL s).take i ++ List.replicate (n - i) 0).length : Int) := by
    rw [List.length_append, List.length_take, List.length_replicate]
    omega
   refine Ev.step (fun k => ?_) ih
   simp only [mudlarkref02_Put.l0]
   rw [if_pos c1, if_pos c2, if_neg h, if_pos c3, Int.toNat_natCast, e, next_i i (by omega)]
theorem RefPutS_eq (s : ByteArray) (wide : Int) (hs : s.size ≤ 4294967296) (hw : wide ≤ 140737488351232) : Ev (fun k => mudlarkref02_Put.f k s wide) (sputF s wide) := by
 unfold sputF
 by_cases h : (s.size : Int) > wide
 ·rw [if_pos (Or.inl h)]
  refine Ev.step (f := fun _ => some ([], false)) (fun k => ?_) (Ev.now _)
  unfold mudlarkref02_Put.f
  rw [if_pos h]
 ·obtain ⟨n, rfl⟩ := Int.eq_ofNat_of_zero_le (show 0 ≤ wide by omega)
  have hp := refPutS s n (by omega) hs s.size 0 (by omega) (Nat.zero_le _) (fun j hj => by omega)
  rw [List.take_zero, List.nil_append, Nat.sub_zero] at hp
  have e : (if (s.size : Int) > (n : Int) ∨ Lib.indexByte s.data.toList 0 ≥ 0 then (([] : List Int), false) else (numsL s ++ List.replicate ((n : Int).toNat - s.size) 0, true)) = (if ∃ j, ∃ h : j < s.size, bt s (j : Int) = 0 then ([], false) else (numsL s ++ List.replicate (n - s.size) 0, true)) := by
   rw [Int.toNat_natCast]
   by_cases h2 : Lib.indexByte s.data.toList 0 ≥ 0
   ·rw [if_pos (Or.inr h2), if_pos ((ix_nums s).1 h2)]
   ·rw [if_neg (fun hh => hh.elim h h2), if_neg (fun hh => h2 ((ix_nums s).2 hh))]
  rw [e]
  refine Ev.congr (fun k => ?_) hp
  unfold mudlarkref02_Put.f
  rw [if_neg h, if_pos (by omega), if_pos (by omega), Int.toNat_natCast]
  rfl
end Go.Proofs.YtkfcfbggojmfkaaGreatDoor.P
end
