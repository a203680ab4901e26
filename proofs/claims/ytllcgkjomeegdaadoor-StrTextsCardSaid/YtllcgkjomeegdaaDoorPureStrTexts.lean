/- The pure statement of StrTexts: Utf8 and Plain of any text, and of such as may be UTF-8, are what the chapter says. No conditions. -/
import Derived.Test.YtllcgkjomeegdaaDoorHTexts
import Derived.Test.YtllcgkjomeegdaaDoorPx4
import Derived.Test.YtllcgkjomeegdaaDoorPx6
namespace Go.Proofs.YtllcgkjomeegdaaDoor.Pure
open Go Go.RowKit Go.Proofs.YtllcgkjomeegdaaDoor.P Go.Proofs.YtllcgkjomeegdaaDoorW.PrintWords Go.Proofs.YtllcgkjomeegdaaDoorW.PrintLast

theorem bytesLoop (l : List Int) (hb : Bytes l) : ∀ (d i : Nat) (x : List Int), 20 - i = d → i ≤ 20 → x.length ≤ i → ∃ q, Ev (fun k => mudlarklaw02_Bytes.l0 k l x (i : Int)) q ∧ q.size ≤ 20
  | 0, i, x, hd, hi, hx => by
    refine ⟨strOfNums x, Ev.step (f := fun _ => some (strOfNums x)) (fun k => ?_) (Ev.now _), by rw [strOfNums_size]; omega⟩
    simp only [mudlarklaw02_Bytes.l0]
    by_cases h : (i : Int) < (l.length : Int)
    · rw [if_pos h, if_neg (by omega)]
    · rw [if_neg h]
  | d + 1, i, x, hd, hi, hx => by
    by_cases h : i < l.length
    · have hc := hb _ (List.getElem_mem h)
      have hrd : rd l (i : Int) = l[i] := by simp [rd, h]
      obtain ⟨m, hm⟩ : ∃ m, m = Int.tmod l[i] 16 := ⟨_, rfl⟩
      have m0 : 0 ≤ m := by rw [hm]; exact Int.tmod_nonneg _ hc.1
      have m1 : m < 16 := by rw [hm]; exact Int.tmod_lt_of_pos _ (by omega)
      obtain ⟨Y, hY⟩ : ∃ Y : List Int, Y = [97, 194, 128, 191, 224, 160, 237, 159, 240, 144, 244, 143, 193, 245, 239, rd l (i : Int)] := ⟨_, rfl⟩
      have hYl : (Y.length : Int) = 16 := by rw [hY]; rfl
      obtain ⟨q, hq, hq2⟩ := bytesLoop l hb d (i + 1) (x ++ [rd Y m]) (by omega) (by omega) (by rw [List.length_append]; simp only [List.length_cons, List.length_nil]; omega)
      refine ⟨q, Ev.step (fun k => ?_) hq, hq2⟩
      have c1 : (i : Int) < (l.length : Int) := by omega
      have c2 : (i : Int) < 20 := by omega
      have c3 : (0 : Int) ≤ (i : Int) := by omega
      have c4 : m < (Y.length : Int) := by omega
      simp only [mudlarklaw02_Bytes.l0]
      rw [← hY, if_pos c1, if_pos c2, if_pos c3, Option.bind_some, hrd, ← hm, if_pos m0, if_pos c4, if_pos (by omega), next_i i (by omega)]
    · refine ⟨strOfNums x, Ev.step (f := fun _ => some (strOfNums x)) (fun k => ?_) (Ev.now _), by rw [strOfNums_size]; omega⟩
      simp only [mudlarklaw02_Bytes.l0]
      rw [if_neg (by omega)]
theorem StrTexts : mudlarklaw02_StrTexts.Pure := by
  intro a0 l1 _ _ h1 w1
  refine Ev.rounds (g := fun k => mudlarklaw02_StrTexts.f k a0 l1) ?_
  obtain ⟨t, ht, ht2⟩ : ∃ q, Ev (fun k => mudlarklaw02_Bytes.f k l1) q ∧ q.size ≤ 20 := bytesLoop l1 (wf_bytes w1) 20 0 [] rfl (Nat.zero_le _) (Nat.zero_le _)
  have hyes : Ev (fun k => mudlarklaw02_StrTexts.j0 k a0 l1 true) true := by
    refine Ev.step (f := fun _ => (mudlarklaw02_known.f).bind fun t => some t) (fun k => by simp only [mudlarklaw02_StrTexts.j0, if_true]) ?_
    rw [known_all]
    exact Ev.now true
  by_cases h : (a0.size : Int) > 300
  · refine Ev.congr (fun k => ?_) hyes
    unfold mudlarklaw02_StrTexts.f
    rw [if_pos h]
  · have hno : Ev (fun k => mudlarklaw02_StrTexts.j0 k a0 l1 false) true := by
      refine Ev.step (f := fun k => (mudlarklaw02_Bytes.f k l1).bind fun t201 => ((str_Utf8.f a0).bind fun t202 => ((mudlarkref02_Utf8.f k a0).bind fun t203 => (if (t202 == t203) = true then ((str_Plain.f a0).bind fun t204 => ((mudlarkref02_Plain.f k a0).bind fun t205 => (if (t204 == t205) = true then ((str_Utf8.f t201).bind fun t206 => ((mudlarkref02_Utf8.f k t201).bind fun t207 => (if (t206 == t207) = true then ((str_Plain.f t201).bind fun t208 => ((mudlarkref02_Plain.f k t201).bind fun t209 => (some (t208 == t209)))) else (some false)))) else (some false)))) else (some false))))) (fun k => ?_) ?_
      · simp only [mudlarklaw02_StrTexts.j0]
        rw [if_neg (by simp)]
      · refine Ev.bind ht ?_
        rw [Utf8_eq, Plain_eq, Utf8_eq, Plain_eq]
        simp only [Option.bind_some]
        refine Ev.bind (RefUtf8_eq a0 (by omega)) ?_
        simp only [beq_self_eq_true, if_true]
        refine Ev.bind (RefPlain_eq a0 (by omega)) ?_
        simp only [beq_self_eq_true, if_true]
        refine Ev.bind (RefUtf8_eq t (by omega)) ?_
        simp only [beq_self_eq_true, if_true]
        refine Ev.bind (RefPlain_eq t (by omega)) ?_
        simp only [beq_self_eq_true]
        exact Ev.now true
    refine Ev.congr (fun k => ?_) hno
    unfold mudlarklaw02_StrTexts.f
    rw [if_neg h, known_all]
    rfl
end Go.Proofs.YtllcgkjomeegdaaDoor.Pure
