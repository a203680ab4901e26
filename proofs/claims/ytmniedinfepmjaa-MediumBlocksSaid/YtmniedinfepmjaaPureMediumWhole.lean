/- The statement MediumWhole, in lists and numbers. No conditions. -/
import Derived.Test.YtmniedinfepmjaaHMed
import Derived.Test.YtmniedinfepmjaaPx3
namespace Go.Proofs.Ytmniedinfepmjaa.Pure
open Go Go.RowKit Go.Lib Go.Proofs Go.Proofs.Ytmniedinfepmjaa.P Go.Proofs.YtmniedinfepmjaaW.PrintWords Go.Proofs.YtmniedinfepmjaaW.PrintLast Go.Proofs.YtmniedinfepmjaaW.PrintMore
set_option linter.unusedVariables false
set_option linter.unusedSimpArgs false

theorem count_eq (y z : List Int) (hy : y.length ≤ 3000) : medium_Count.f y z = some (blocksN y.length) := by
  have e : wrap64 (Int.tdiv (wrap64 ((wrap64 ((y.length : Int) + 512)) - 1)) 512) = blocksN y.length := by
    unfold blocksN
    rw [wrap64_id ((y.length : Int) + 512) (by omega) (by omega), wrap64_id ((y.length : Int) + 512 - 1) (by omega) (by omega), Int.tdiv_eq_ediv_of_nonneg (by omega), wrap64_id _ (by omega) (by omega)]
    omega
  unfold medium_Count.f
  rw [e]
theorem block_in (y z : List Int) (hy : y.length ≤ 3000) (i k : Nat) (h : 512 * i < y.length) (hk : 1 ≤ k) : medium_Block.f k y z (i : Int) = some ((y.drop (512 * i)).take 512) := by
  obtain ⟨k, rfl⟩ : ∃ m, k = m + 1 := ⟨k - 1, by omega⟩
  unfold medium_Block.f
  rw [if_neg (by omega), count_eq y z hy, Option.bind_some, medium_Block.j0, if_neg (by rw [decide_eq_true_iff]; unfold blocksN; omega), bounds_at i y.length (by omega) h, Option.bind_some]
  simp only
  rw [if_pos (by omega), if_pos (by omega), if_pos (by omega), Int.toNat_natCast, Int.toNat_natCast]
  have e : ((y.take (min (512 * i + 512) y.length)).drop (512 * i)) = (y.drop (512 * i)).take 512 := by
    rw [List.drop_take, List.take_eq_take_iff, List.length_drop]
    omega
  rw [e]
  unfold slices_Clone_byte_byte.f
  rw [if_pos (by simp only [List.length_take, List.length_drop]; omega), Option.bind_some]
theorem block_out (y z : List Int) (hy : y.length ≤ 3000) (i : Int) (k : Nat) (h : i < 0 ∨ blocksN y.length ≤ i) (hk : 1 ≤ k) : medium_Block.f k y z i = some [] := by
  obtain ⟨k, rfl⟩ : ∃ m, k = m + 1 := ⟨k - 1, by omega⟩
  unfold medium_Block.f
  by_cases h0 : i < 0
  · rw [if_pos h0, medium_Block.j0, if_pos rfl]
  · rw [if_neg h0, count_eq y z hy, Option.bind_some, medium_Block.j0, if_pos (by rw [decide_eq_true_iff]; omega)]
theorem whole_l0 (y : List Int) (hy : y.length ≤ 3000) : ∀ (m i f : Nat), i + m = (y.length + 511) / 512 → m + 10 ≤ f → mudlarklaw06_MediumWhole.l0 f (y.take (512 * i)) (i : Int) y [] = some true
  | m, i, 0, h1, h2 => (by omega : False).elim
  | m, i, f + 1, h1, h2 => by
    rw [mudlarklaw06_MediumWhole.l0, count_eq y [] hy, Option.bind_some]
    cases m with
    | zero =>
      have hb : blocksN y.length = (i : Int) := by unfold blocksN; omega
      rw [if_neg (by omega), known_eq f (by omega), Option.bind_some, if_pos rfl, List.take_of_length_le (by omega), if_pos rfl, block_out y [] hy (-1) f (.inl (by decide)) (by omega), Option.bind_some, if_pos (by decide), Option.bind_some, block_out y [] hy _ f (.inr (Int.le_refl _)) (by omega), Option.bind_some]
      rfl
    | succ m =>
      have hb : (i : Int) < blocksN y.length := by unfold blocksN; omega
      have hi : 512 * i < y.length := by omega
      have hlen : ((y.drop (512 * i)).take 512).length = min 512 (y.length - 512 * i) := by rw [List.length_take, List.length_drop]
      have e : y.take (512 * i) ++ (y.drop (512 * i)).take 512 = y.take (512 * (i + 1)) := by rw [show 512 * (i + 1) = 512 * i + 512 by omega, List.take_add]
      have hl2 : (y.take (512 * i)).length + ((y.drop (512 * i)).take 512).length < 140737488355328 := by rw [hlen, List.length_take]; omega
      have ih := whole_l0 y hy m (i + 1) f (by omega) (by omega)
      rw [if_pos hb, block_in y [] hy i f hi (by omega), Option.bind_some]
      by_cases h5 : ((((y.drop (512 * i)).take 512).length : Nat) : Int) = 512
      · rw [if_pos h5, if_pos hl2, e, next_i i (by omega)]
        exact ih
      · rw [if_neg h5, Option.bind_some, if_pos (by rw [hlen] at h5; unfold blocksN; rw [wrap64_id _ (by omega) (by omega)]; omega), if_neg (by rw [hlen]; omega), if_pos hl2, e, next_i i (by omega)]
        exact ih
theorem badL_nil (n : Nat) : badL n [] = [] := List.eq_nil_of_length_eq_zero (by have := badL_len n []; simpa using this)
theorem MediumWhole : mudlarklaw06_MediumWhole.Pure := by
  intro c n hcl hcs hc hn
  refine ⟨10000, ?_⟩
  have hn1 : 0 ≤ n ∧ n ≤ 65535 := by simpa [Lit.wf, IntKind.min, IntKind.max, IntKind.signed, IntKind.bits] using hn
  obtain ⟨y, hy, hyl⟩ := Bytes_ex c (by omega) n hn1.1 (by omega) 10000 (by omega)
  have hm : medium_Make.f y [] = some (y, []) := by
    unfold medium_Make.f
    rw [if_pos ⟨by omega, by simp⟩, badL_nil]
    rfl
  unfold mudlarklaw06_MediumWhole.f
  rw [hy, Option.bind_some, hm, Option.bind_some]
  have := whole_l0 y hyl ((y.length + 511) / 512) 0 10000 (by omega) (by omega)
  simpa using this
end Go.Proofs.Ytmniedinfepmjaa.Pure
