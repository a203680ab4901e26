/- pax.first of a text, as lists of bytes: it finds a record just if the record's line is ahead of the text. No conditions. -/
import Derived.Test.YtcbeehchhhoeeaaDoorHPaxL
import Derived.Lib.AtoiTie
namespace Go.Proofs.YtcbeehchhhoeeaaDoor.P
open Go Go.RowKit Go.Lib Go.Proofs Go.Proofs.YtcbeehchhhoeeaaDoorW.PrintWords Go.Proofs.YtcbeehchhhoeeaaDoorW.PrintLast Go.Proofs.YtcbeehchhhoeeaaDoorW.PrintMore
set_option linter.unusedVariables false
set_option linter.unusedSimpArgs false

theorem Cut_eq (l : List UInt8) (c : UInt8) (h : l.length ≤ 9223372036854775806) : strings_Cut.f (tx l) (⟨#[c]⟩ : ByteArray) = some (tx (cut l [c]).1, tx (cut l [c]).2.1, (cut l [c]).2.2) := by
  unfold strings_Cut.f
  show (if (tx l).size ≤ 9223372036854775806 then _ else none) = _
  rw [if_pos (by rw [tx_size]; exact h)]
  rfl
theorem Atoi_some (l : List UInt8) (n : Int) (h : l.length ≤ 18) (ha : atoi l = some n) : strconv_Atoi_44.f (tx l) = some (n, none) := by
  unfold strconv_Atoi_44.f atoiV
  rw [if_pos (by rw [tx_size]; omega), data_tx, atoiAll_short l h, ha]
  rfl
theorem Atoi_none (l : List UInt8) (h : l.length ≤ 18) (ha : atoi l = none) : strconv_Atoi_44.f (tx l) = some (0, some 0) := by
  unfold strconv_Atoi_44.f atoiV
  rw [if_pos (by rw [tx_size]; omega), data_tx, atoiAll_short l h, ha]
  rfl
theorem cut_lens (l : List UInt8) (c : UInt8) : (cut l [c]).1.length ≤ l.length ∧ (cut l [c]).2.1.length ≤ l.length := by
  unfold cut
  split
  · constructor
    · rw [List.length_take]; omega
    · rw [List.length_drop]; omega
  · exact ⟨Nat.le_refl _, Nat.zero_le _⟩
/-- pax.first, as lists. -/
def firstL (s : List UInt8) : List UInt8 × List UInt8 × List UInt8 × Bool :=
  match atoi (cut (s.take 9) [32]).1 with
  | none => ([], [], s, false)
  | some n =>
    if n ≤ ((cut (s.take 9) [32]).1.length : Int) ∨ (s.length : Int) < n then ([], [], s, false)
    else
      if (cut ((s.take n.toNat).drop ((cut (s.take 9) [32]).1.length + 1)) [61]).2.2 = true ∧ (cut ((s.take n.toNat).drop ((cut (s.take 9) [32]).1.length + 1)) [61]).2.1 ≠ [] then
        ((cut ((s.take n.toNat).drop ((cut (s.take 9) [32]).1.length + 1)) [61]).1, (cut ((s.take n.toNat).drop ((cut (s.take 9) [32]).1.length + 1)) [61]).2.1.take ((cut ((s.take n.toNat).drop ((cut (s.take 9) [32]).1.length + 1)) [61]).2.1.length - 1), s.drop n.toNat,
          okR (cut ((s.take n.toNat).drop ((cut (s.take 9) [32]).1.length + 1)) [61]).1 ((cut ((s.take n.toNat).drop ((cut (s.take 9) [32]).1.length + 1)) [61]).2.1.take ((cut ((s.take n.toNat).drop ((cut (s.take 9) [32]).1.length + 1)) [61]).2.1.length - 1)) &&
          (lineL (cut ((s.take n.toNat).drop ((cut (s.take 9) [32]).1.length + 1)) [61]).1 ((cut ((s.take n.toNat).drop ((cut (s.take 9) [32]).1.length + 1)) [61]).2.1.take ((cut ((s.take n.toNat).drop ((cut (s.take 9) [32]).1.length + 1)) [61]).2.1.length - 1)) == s.take n.toNat))
      else ([], [], s, false)
theorem emp_tx : (⟨#[]⟩ : ByteArray) = tx [] := rfl
theorem j1_true (k : Nat) (x0 : ByteArray) (x8 : Int) (a b c d : ByteArray) (n : Nat) (hn : 1 ≤ n) : pax_first.j1 n x0 x8 a b true c d = some (c, d, x0, false) := by
  obtain ⟨m, rfl⟩ : ∃ m, n = m + 1 := ⟨n - 1, by omega⟩
  rw [pax_first.j1]
  rw [if_pos rfl]
theorem first_eq (s : List UInt8) (hs : s.length ≤ 1048576) (n : Nat) (hn : 40 ≤ n) :
    pax_first.f n (tx s) = some (tx (firstL s).1, tx (firstL s).2.1, tx (firstL s).2.2.1, (firstL s).2.2.2) := by
  have hm : (mn ((tx s).size : Int) 9).toNat = min s.length 9 := by rw [tx_size]; unfold mn; split <;> omega
  have hm0 : 0 ≤ mn ((tx s).size : Int) 9 := by rw [tx_size]; unfold mn; split <;> omega
  have hm1 : mn ((tx s).size : Int) 9 ≤ ((tx s).size : Int) := by unfold mn; split <;> omega
  have ht : (s.take (min s.length 9)).drop 0 = s.take 9 := by rw [List.drop_zero, Nat.min_comm, ← List.take_take, List.take_length]
  unfold pax_first.f firstL
  rw [if_pos hm0, if_pos hm1, hm, tx_cut, ht, Cut_eq _ _ (by rw [List.length_take]; omega), Option.bind_some]
  simp only
  have hd9 : (cut (s.take 9) [32]).1.length ≤ 9 := by have := (cut_lens (s.take 9) 32).1; rw [List.length_take] at this; omega
  generalize (cut (s.take 9) [32]).1 = d at hd9 ⊢
  have fail : ∀ (i : Int) , pax_first.j0 n (tx s) (tx d) i true (⟨#[]⟩ : ByteArray) (⟨#[]⟩ : ByteArray) = some (tx [], tx [], tx s, false) := by
    intro i
    obtain ⟨m, rfl⟩ : ∃ m, n = m + 1 := ⟨n - 1, by omega⟩
    rw [pax_first.j0]
    rw [if_pos rfl]
    rfl
  cases ha : atoi d with
  | none =>
    rw [Atoi_none d (by omega) ha, Option.bind_some]
    simp only
    rw [if_neg (by simp), fail]
  | some i =>
    rw [Atoi_some d i (by omega) ha, Option.bind_some]
    simp only
    rw [if_pos (by simp), tx_size]
    by_cases h1 : i ≤ (d.length : Int)
    · rw [if_pos h1, if_pos (Or.inl h1), fail]
    · rw [if_neg h1]
      by_cases h2 : (s.length : Int) < i
      · rw [if_pos (Or.inr h2), tx_size, decide_eq_true (show i > (s.length : Int) from h2), fail]
      · rw [if_neg (by omega), tx_size, decide_eq_false (show ¬ i > (s.length : Int) by omega)]
        obtain ⟨m, rfl⟩ : ∃ m, n = m + 2 := ⟨n - 2, by omega⟩
        rw [pax_first.j0]
        rw [if_neg (by simp), tx_size, tx_size, wrap64_id _ (by omega) (by omega), if_pos (by omega), if_pos (by omega), if_pos (by omega), tx_cut, show ((d.length : Int) + 1).toNat = d.length + 1 by omega]
        have hcl := cut_lens ((s.take i.toNat).drop (d.length + 1)) 61
        have hdl : ((s.take i.toNat).drop (d.length + 1)).length ≤ 1048576 := by rw [List.length_drop, List.length_take]; omega
        rw [Cut_eq _ _ (by omega), Option.bind_some]
        simp only
        generalize hc1 : (cut ((s.take i.toNat).drop (d.length + 1)) [61]).1 = c1 at hcl ⊢
        generalize hc2 : (cut ((s.take i.toNat).drop (d.length + 1)) [61]).2.1 = c2 at hcl ⊢
        generalize hc3 : (cut ((s.take i.toNat).drop (d.length + 1)) [61]).2.2 = c3
        cases c3 with
        | false =>
          rw [if_neg (by simp), j1_true 0 _ _ _ _ _ _ _ (by omega), if_neg (by simp)]
          rfl
        | true =>
          rw [if_pos rfl, tx_toList]
          by_cases he : c2 = []
          · subst he
            rw [show (([] : List UInt8) == []) = true from rfl, j1_true 0 _ _ _ _ _ _ _ (by omega), if_neg (by simp)]
            rfl
          · rw [show (c2 == ([] : List UInt8)) = false from beq_eq_false_iff_ne.2 he, if_pos ⟨rfl, he⟩]
            have hp : 0 < c2.length := List.length_pos_iff.2 he
            rw [pax_first.j1]
            rw [if_neg (by simp), tx_size, wrap64_id _ (by omega) (by omega), if_pos (by omega), if_pos (by omega), if_pos (by omega), tx_size, if_pos (by omega), show ((c2.length : Int) - 1).toNat = c2.length - 1 by omega, tx_cut, List.drop_zero]
            have hr : pax_Right.f (tx c1) (tx (c2.take (c2.length - 1))) = some (okR c1 (c2.take (c2.length - 1))) := rfl
            rw [hr, Option.bind_some]
            cases hok : okR c1 (c2.take (c2.length - 1)) with
            | false => rw [if_neg (by simp), tx_cut, List.take_of_length_le (Nat.le_refl _)]; rfl
            | true =>
              rw [if_pos rfl, line_eq _ _ (by rw [tx_size, tx_size, List.length_take]; omega) _ (by omega), Option.bind_some, tx_cut, tx_cut, List.take_of_length_le (Nat.le_refl _), List.drop_zero, tx_toList, tx_toList, data_tx, data_tx]
              rfl
/-! ### What it finds -/
theorem first_ok (s : List UInt8) (h : (firstL s).2.2.2 = true) : okR (firstL s).1 (firstL s).2.1 = true ∧ s = lineL (firstL s).1 (firstL s).2.1 ++ (firstL s).2.2.1 := by
  unfold firstL at h ⊢
  generalize (cut (s.take 9) [32]).1 = d at h ⊢
  cases ha : atoi d with
  | none => rw [ha] at h; cases h
  | some i =>
    rw [ha] at h
    simp only at h ⊢
    by_cases h1 : i ≤ (d.length : Int) ∨ (s.length : Int) < i
    · rw [if_pos h1] at h; cases h
    · rw [if_neg h1] at h ⊢
      generalize cut ((s.take i.toNat).drop (d.length + 1)) [61] = c at h ⊢
      by_cases h2 : c.2.2 = true ∧ c.2.1 ≠ []
      · rw [if_pos h2] at h ⊢
        simp only at h ⊢
        rw [Bool.and_eq_true] at h
        have e := beq_iff_eq.1 h.2
        refine ⟨h.1, ?_⟩
        rw [e, List.take_append_drop]
      · rw [if_neg h2] at h; cases h
theorem first_of (k v t : List UInt8) (h : okR k v = true) (hl : (lineL k v).length ≤ 1048576) (hk : k.length + v.length ≤ 100000000000000) : firstL (lineL k v ++ t) = (k, v, t, true) := by
  have hlen := lineL_len k v hk
  have hbd := lnN_le k v hk
  have hnd : nDigits (lnN k v) ≤ 7 := nd_le 6 _ (by omega)
  have hdl := decDigits_length (lnN k v)
  have hkk := okR_key h
  have e1 : lineL k v ++ t = decDigits (lnN k v) ++ 32 :: (k ++ 61 :: (v ++ 10 :: t)) := by unfold lineL restL; simp
  have hd : (cut ((lineL k v ++ t).take 9) [32]).1 = decDigits (lnN k v) := by
    rw [e1, List.take_append, List.take_of_length_le (by omega)]
    obtain ⟨m, hm⟩ : ∃ m, 9 - (decDigits (lnN k v)).length = m + 1 := ⟨9 - (decDigits (lnN k v)).length - 1, by omega⟩
    rw [hm, List.take_succ_cons, cutL_at _ _ _ (dig_no32 _ (dd_dig _))]
  have ht : (lineL k v ++ t).take (lnN k v) = lineL k v := by rw [← hlen, List.take_left]
  have hr : (lineL k v ++ t).drop (lnN k v) = t := by rw [← hlen, List.drop_left]
  have hc : (lineL k v).drop ((decDigits (lnN k v)).length + 1) = k ++ 61 :: (v ++ [10]) := by
    unfold lineL restL
    rw [← List.drop_drop, List.drop_left]
    rfl
  unfold firstL
  rw [hd, atoi_dd]
  simp only
  rw [Int.toNat_natCast, ht, hr, hc, cutL_at _ _ _ (ok_no61 k hkk)]
  simp only
  have hsum : (decDigits (lnN k v)).length + (k.length + v.length + 3) = lnN k v := by
    have := hlen
    unfold lineL at this
    rw [List.length_append, restL_len] at this
    exact this
  rw [if_neg (by rw [List.length_append, hlen]; omega), if_pos (by simp)]
  have hv : (v ++ [(10 : UInt8)]).take ((v ++ [(10 : UInt8)]).length - 1) = v := by
    rw [List.length_append, List.length_singleton, Nat.add_sub_cancel, List.take_left]
  rw [hv, h]
  simp
end Go.Proofs.YtcbeehchhhoeeaaDoor.P
