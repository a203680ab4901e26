/- Chapter 06 in lists: the choices' bytes, the example, an image is the same as itself. No conditions. -/
import Derived.Test.YtmniedinfepmjaaPx4
namespace Go.Proofs.Ytmniedinfepmjaa.P
open Go Go.RowKit Go.Lib Go.Proofs Go.Proofs.YtmniedinfepmjaaW.PrintWords Go.Proofs.YtmniedinfepmjaaW.PrintLast Go.Proofs.YtmniedinfepmjaaW.PrintMore
set_option linter.unusedVariables false
set_option linter.unusedSimpArgs false

theorem bad_known : badL 513 [1, 1, 7] = [1] := by
  have h1 : ([1, 1, 7] : List Int).filter (fun x => !delP (blocksN 513) x) = [1, 1] := by decide +kernel
  unfold badL
  rw [h1, List.mergeSort_of_pairwise (by simp)]
  decide +kernel
theorem known_eq (k : Nat) (hk : 5 ≤ k) : mudlarklaw06_known.f k = some true := by
  have hm : medium_Make.f (List.replicate 513 0) [1, 1, 7] = some (makeB (List.replicate 513 0) [1], [1]) := by
    unfold medium_Make.f
    rw [List.length_replicate, bad_known, if_pos (by decide)]
  have hz : makeB (List.replicate 513 0) [1] = List.replicate 513 0 := by decide +kernel
  obtain ⟨m, rfl⟩ : ∃ m, k = m + 5 := ⟨k - 5, by omega⟩
  unfold mudlarklaw06_known.f
  rw [if_pos (by decide), hm, Option.bind_some, hz]
  have hc : medium_Count.f (List.replicate 513 0) [1] = some 2 := by decide +kernel
  have hb : medium_Block.f (m + 5) (List.replicate 513 0) [1] 1 = some [0] := by
    unfold medium_Block.f
    rw [if_neg (by decide), hc, Option.bind_some, medium_Block.j0]
    decide +kernel
  have hd : medium_Bad.f (m + 5) (List.replicate 513 0) [1] 1 = some true := by
    have hi : slices_Index_int_int.f (m + 5) [1] 1 = some 0 := by
      unfold slices_Index_int_int.f
      rw [slices_Index_int_int.l0, if_pos (by decide), if_pos (by decide), if_pos (by decide), if_pos (by decide)]
    unfold medium_Bad.f slices_Contains_int_int.f
    rw [hi]
    rfl
  simp only
  rw [hc, Option.bind_some, if_pos rfl, hb, Option.bind_some, if_pos (by decide), hd, Option.bind_some, if_pos rfl]
  rfl
theorem same_l0 (b z : List Int) (hz : z.length ≤ 1000000000000) : ∀ (m i f : Nat), i + m = z.length → m + 1 ≤ f → mudlarkref06_Same.l0 f (i : Int) b z b z = some true
  | m, i, 0, h1, h2 => (by omega : False).elim
  | m, i, f + 1, h1, h2 => by
    rw [mudlarkref06_Same.l0]
    cases m with
    | zero => rw [if_neg (by omega)]
    | succ m =>
      rw [if_pos (by omega), if_pos (by omega), if_pos (by omega), if_pos rfl, next_i i (by omega)]
      exact same_l0 b z hz m (i + 1) f (by omega) (by omega)
theorem Same_self (b z : List Int) (hz : z.length ≤ 1000000000000) (k : Nat) (hk : z.length + 2 ≤ k) : mudlarkref06_Same.f k b z b z = some true := by
  obtain ⟨m, rfl⟩ : ∃ m, k = m + 1 := ⟨k - 1, by omega⟩
  unfold mudlarkref06_Same.f
  rw [if_pos rfl, mudlarkref06_Same.j0, if_neg (by simp)]
  exact same_l0 b z hz z.length 0 m (by omega) (by omega)
theorem bytes_l0 (c : List Int) (hc : c.length ≤ 140737488351232) : ∀ (m i f : Nat) (x : List Int), i + m = x.length → x.length ≤ 3000 → m + 1 ≤ f → ∃ y, mudlarklaw06_Bytes.l0 f c x (i : Int) = some y ∧ y.length = x.length
  | m, i, 0, x, h1, h3, h2 => (by omega : False).elim
  | m, i, f + 1, x, h1, h3, h2 => by
    rw [mudlarklaw06_Bytes.l0]
    cases m with
    | zero => rw [if_neg (by omega)]; exact ⟨_, rfl, rfl⟩
    | succ m =>
      rw [if_pos (by omega)]
      by_cases h0 : (c.length : Int) > 0
      · have t1 : 0 ≤ Int.tmod (i : Int) (c.length : Int) := Int.tmod_nonneg _ (by omega)
        have t2 : Int.tmod (i : Int) (c.length : Int) < (c.length : Int) := Int.tmod_lt_of_pos _ h0
        rw [if_pos h0, if_neg (by omega), if_pos t1, if_pos t2, if_pos (by omega), next_i i (by omega)]
        obtain ⟨y, hy, hl⟩ := bytes_l0 c hc m (i + 1) f (x.set (i : Int).toNat (((rd c (Int.tmod (i : Int) (c.length : Int))) + ((wrap64 (Int.tdiv (i : Int) 512)) % 256)) % 256)) (by rw [List.length_set]; omega) (by rw [List.length_set]; exact h3) (by omega)
        exact ⟨y, hy, by rw [hl, List.length_set]⟩
      · rw [if_neg h0]; exact ⟨_, rfl, rfl⟩
theorem Bytes_ex (c : List Int) (hc : c.length ≤ 140737488351232) (n : Int) (h0 : 0 ≤ n) (h1 : n < 65536) (k : Nat) (hk : 3002 ≤ k) : ∃ y, mudlarklaw06_Bytes.f k c n = some y ∧ y.length ≤ 3000 := by
  have t1 : 0 ≤ Int.tmod n 3000 := Int.tmod_nonneg _ h0
  have t2 : Int.tmod n 3000 < 3000 := Int.tmod_lt_of_pos _ (by decide)
  unfold mudlarklaw06_Bytes.f
  rw [wrap64_id _ (by omega) (by omega), if_pos t1, if_pos (by omega)]
  obtain ⟨y, hy, hl⟩ := bytes_l0 c hc (Int.tmod n 3000).toNat 0 k (List.replicate (Int.tmod n 3000).toNat 0) (by simp) (by simp; omega) (by omega)
  exact ⟨y, hy, by rw [hl, List.length_replicate]; omega⟩
end Go.Proofs.Ytmniedinfepmjaa.P
