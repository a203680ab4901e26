/- The statement MediumTwice, in lists and numbers. No conditions. -/
import Derived.Test.YtmniedinfepmjaaHMed
namespace Go.Proofs.Ytmniedinfepmjaa.Pure
open Go Go.RowKit Go.Lib Go.Proofs Go.Proofs.Ytmniedinfepmjaa.P Go.Proofs.YtmniedinfepmjaaW.PrintWords Go.Proofs.YtmniedinfepmjaaW.PrintLast Go.Proofs.YtmniedinfepmjaaW.PrintMore
set_option linter.unusedVariables false
set_option linter.unusedSimpArgs false

theorem compact_lt (z : List Int) (hs : z.Pairwise (· ≤ ·)) : (Lib.compact z).Pairwise (· < ·) := by
  unfold Lib.compact Lib.compactUpTo
  rw [List.pairwise_map]
  refine List.Pairwise.imp_of_mem ?_ (List.Pairwise.filter _ List.pairwise_lt_range)
  intro i j hi hj hij
  have hj2 := List.mem_filter.1 hj
  have hjl := List.mem_range.1 hj2.1
  have hk : j = 0 ∨ z.toArray[j]! ≠ z.toArray[j - 1]! := of_decide_eq_true hj2.2
  have e : ∀ q, (hq : q < z.length) → z.toArray[q]! = z[q] := fun q hq => by rw [getElem!_pos z.toArray q (by simpa using hq)]; simp
  rw [e i (by omega), e j hjl]
  have h1 : z[j - 1] ≤ z[j] := List.pairwise_iff_getElem.1 hs (j - 1) j (by omega) hjl (by omega)
  have h2 : z[i] ≤ z[j - 1] := by
    rcases Nat.lt_or_ge i (j - 1) with h | h
    · exact List.pairwise_iff_getElem.1 hs i (j - 1) (by omega) (by omega) h
    · have : i = j - 1 := by omega
      subst this
      exact Int.le_refl _
  rcases hk with h | h
  · omega
  · rw [e j hjl, e (j - 1) (by omega)] at h
    omega
theorem badL_lt (n : Nat) (l : List Int) : (badL n l).Pairwise (· < ·) := by
  unfold badL
  refine compact_lt _ ?_
  have := List.pairwise_mergeSort (le := fun x y : Int => decide (x ≤ y)) (fun a b c h1 h2 => by simp only [decide_eq_true_eq] at *; omega) (fun a b => by simp only [Bool.or_eq_true, decide_eq_true_eq]; omega) (l.filter fun x => !delP (blocksN n) x)
  exact this.imp (fun h => of_decide_eq_true h)
theorem badL_again (n : Nat) (l : List Int) : badL n (badL n l) = badL n l := by
  have hlt := badL_lt n l
  have hf : (badL n l).filter (fun x => !delP (blocksN n) x) = badL n l := by
    rw [List.filter_eq_self]
    intro x hx
    obtain ⟨_, a, b⟩ := badL_mem n l x hx
    unfold delP
    rw [decide_eq_false (by omega), decide_eq_false (by omega)]
    rfl
  generalize badL n l = z at hlt hf
  unfold badL
  rw [hf, List.mergeSort_of_pairwise (hlt.imp (fun h => decide_eq_true (by omega)))]
  refine Lib.compact_all z (fun j hj => ?_)
  unfold Lib.keeps
  rw [decide_eq_true_eq]
  by_cases h0 : j = 0
  · exact .inl h0
  · refine .inr ?_
    rw [getElem!_pos z.toArray j (by simpa using hj), getElem!_pos z.toArray (j - 1) (by simp; omega)]
    have := List.pairwise_iff_getElem.1 hlt (j - 1) j (by omega) hj (by omega)
    simp only [List.getElem_toArray]
    omega
theorem zeroB_len (b : List Int) (x : Int) : (zeroB b x).length = b.length := by
  unfold zeroB
  simp only [List.length_append, List.length_take, List.length_replicate, List.length_drop]
  omega
theorem zeroB_get (b : List Int) (x : Int) (p : Nat) : (zeroB b x)[p]? = if x.toNat = p / 512 then (b[p]?).map (fun _ => 0) else b[p]? := by
  unfold zeroB
  generalize x.toNat = X
  by_cases hp : p < b.length
  · rw [List.getElem?_append, List.getElem?_append]
    simp only [List.length_append, List.length_take, List.length_replicate, List.length_drop]
    by_cases h1 : p < 512 * X
    · rw [if_pos (by omega), if_pos (by omega), if_neg (by omega), List.getElem?_take, if_pos h1]
    · by_cases h2 : p < 512 * X + 512
      · rw [if_pos (by omega), if_neg (by omega), if_pos (by omega), List.getElem?_replicate, if_pos (by omega), List.getElem?_eq_getElem hp]
        rfl
      · rw [if_neg (by omega), if_neg (by omega), List.getElem?_drop]
        congr 1
        omega
  · rw [List.getElem?_eq_none (by simp only [List.length_append, List.length_take, List.length_replicate, List.length_drop]; omega), List.getElem?_eq_none (by omega)]
    simp
theorem makeB_len : ∀ (z b : List Int), (makeB b z).length = b.length
  | [], b => rfl
  | x :: z, b => by
    have := makeB_len z (zeroB b x)
    rw [zeroB_len] at this
    exact this
theorem makeB_get : ∀ (z b : List Int) (p : Nat), (makeB b z)[p]? = if (∃ x ∈ z, x.toNat = p / 512) then (b[p]?).map (fun _ => 0) else b[p]?
  | [], b, p => by rw [if_neg (by simp)]; rfl
  | x :: z, b, p => by
    have ih := makeB_get z (zeroB b x) p
    have e : makeB b (x :: z) = makeB (zeroB b x) z := rfl
    rw [e, ih, zeroB_get]
    by_cases h1 : x.toNat = p / 512
    · rw [if_pos h1, if_pos (⟨x, by simp, h1⟩ : ∃ y ∈ x :: z, y.toNat = p / 512)]
      split
      · cases b[p]? <;> rfl
      · rfl
    · rw [if_neg h1]
      by_cases h2 : ∃ y ∈ z, y.toNat = p / 512
      · obtain ⟨y, hy, e2⟩ := h2
        rw [if_pos ⟨y, hy, e2⟩, if_pos ⟨y, by simp [hy], e2⟩]
      · rw [if_neg h2, if_neg]
        rintro ⟨y, hy, e2⟩
        rcases List.mem_cons.1 hy with rfl | hy
        · exact h1 e2
        · exact h2 ⟨y, hy, e2⟩
theorem makeB_again (b z : List Int) : makeB (makeB b z) z = makeB b z := by
  apply List.ext_getElem?
  intro p
  rw [makeB_get z (makeB b z) p, makeB_get z b p]
  split
  · cases b[p]? <;> rfl
  · rfl
theorem twice_l0 (b z : List Int) (hz : z.Pairwise (· < ·)) (hl : z.length ≤ 1000) : ∀ (m i f : Nat), i + m = z.length → m + z.length + 10 ≤ f → mudlarklaw06_MediumTwice.l0 f ((i : Int) + 1) b z b z = some true
  | m, i, 0, h1, h2 => (by omega : False).elim
  | m, i, f + 1, h1, h2 => by
    rw [mudlarklaw06_MediumTwice.l0]
    by_cases hi : i + 1 < z.length
    · cases m with
      | zero => omega
      | succ m =>
        have hlt := List.pairwise_iff_getElem.1 hz i (i + 1) (by omega) hi (by omega)
        have e1 : wrap64 ((i : Int) + 1 - 1) = (i : Int) := by rw [wrap64_id _ (by omega) (by omega)]; omega
        have e2 : wrap64 ((i : Int) + 1 + 1) = ((i + 1 : Nat) : Int) + 1 := by rw [wrap64_id _ (by omega) (by omega)]; omega
        rw [if_pos (by omega), if_pos (by omega), e1, if_pos (by omega), if_pos (by omega), show (i : Int) + 1 = ((i + 1 : Nat) : Int) by omega, rd_get z (i + 1) hi, rd_get z i (by omega), if_neg (by omega)]
        have := twice_l0 b z hz hl m (i + 1) f (by omega) (by omega)
        rw [show ((i + 1 : Nat) : Int) + 1 = wrap64 ((i : Int) + 1 + 1) from e2.symm] at this
        rw [show wrap64 (((i + 1 : Nat) : Int) + 1) = wrap64 ((i : Int) + 1 + 1) by rw [show ((i + 1 : Nat) : Int) = (i : Int) + 1 by omega]]
        exact this
    · rw [if_neg (by omega), known_eq f (by omega), Option.bind_some, if_pos rfl, Same_self b z (by omega) f (by omega), Option.bind_some]
theorem MediumTwice : mudlarklaw06_MediumTwice.Pure := by
  intro c n l hcl hcs hc hn hll hls hl
  refine ⟨10000, ?_⟩
  have hn1 : 0 ≤ n ∧ n ≤ 65535 := by simpa [Lit.wf, IntKind.min, IntKind.max, IntKind.signed, IntKind.bits] using hn
  have hn2 : 0 ≤ n ∧ n < 65536 := ⟨hn1.1, by omega⟩
  obtain ⟨y, hy, hyl⟩ := Bytes_ex c (by omega) n hn2.1 hn2.2 10000 (by omega)
  unfold mudlarklaw06_MediumTwice.f
  by_cases h30 : (l.length : Int) > 30
  · rw [if_pos h30, known_eq _ (by omega), Option.bind_some]
  · have hb := badL_len y.length l
    have hm1 : medium_Make.f y l = some (makeB y (badL y.length l), badL y.length l) := by
      unfold medium_Make.f
      rw [if_pos ⟨by omega, by omega⟩]
    have hm2 : medium_Make.f (makeB y (badL y.length l)) (badL y.length l) = some (makeB y (badL y.length l), badL y.length l) := by
      unfold medium_Make.f
      rw [makeB_len, if_pos ⟨by omega, by omega⟩, badL_again, makeB_again]
    rw [if_neg h30, hy, Option.bind_some, hm1, Option.bind_some]
    simp only
    rw [hm2, Option.bind_some]
    have := twice_l0 (makeB y (badL y.length l)) (badL y.length l) (badL_lt _ _) (by omega) (badL y.length l).length 0 10000 (by omega) (by omega)
    exact this
end Go.Proofs.Ytmniedinfepmjaa.Pure
