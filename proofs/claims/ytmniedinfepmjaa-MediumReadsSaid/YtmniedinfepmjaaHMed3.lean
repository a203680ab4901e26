/- Chapter 06 in lists: the document's Make is the program's. No conditions. -/
import Derived.Test.YtmniedinfepmjaaPureMediumTwice
import Derived.Test.YtmniedinfepmjaaPx5
namespace Go.Proofs.Ytmniedinfepmjaa.Pure
open Go Go.RowKit Go.Lib Go.Proofs Go.Proofs.Ytmniedinfepmjaa.P Go.Proofs.YtmniedinfepmjaaW.PrintWords Go.Proofs.YtmniedinfepmjaaW.PrintLast Go.Proofs.YtmniedinfepmjaaW.PrintMore
set_option linter.unusedVariables false
set_option linter.unusedSimpArgs false

theorem drop_cons (l : List Int) (i : Nat) (h : i < l.length) : l.drop i = l[i] :: l.drop (i + 1) := List.drop_eq_getElem_cons h
theorem rbad_l0 (y l : List Int) (a : Int) (hl : l.length ≤ 1000000000000) : ∀ (m i f : Nat), i + m = l.length → m + 1 ≤ f → mudlarkref06_Bad.l0 f a (i : Int) y l = some (decide (a ∈ l.drop i))
  | m, i, 0, h1, h2 => (by omega : False).elim
  | m, i, f + 1, h1, h2 => by
    rw [mudlarkref06_Bad.l0]
    cases m with
    | zero =>
      rw [if_neg (by omega), List.drop_eq_nil_of_le (by omega)]
      simp
    | succ m =>
      rw [if_pos (by omega), if_pos (by omega), rd_get l i (by omega), drop_cons l i (by omega)]
      by_cases h : l[i] = a
      · rw [if_pos h, decide_eq_true (by rw [h]; exact List.mem_cons_self)]
      · rw [if_neg h, next_i i (by omega), rbad_l0 y l a hl m (i + 1) f (by omega) (by omega)]
        congr 1
        exact decide_eq_decide.2 ⟨fun h2 => List.mem_cons_of_mem _ h2, fun h2 => (List.mem_cons.1 h2).resolve_left (fun e => h e.symm)⟩
theorem rBad_eq (y l : List Int) (a : Int) (hl : l.length ≤ 1000000000000) (k : Nat) (hk : l.length + 1 ≤ k) : mudlarkref06_Bad.f k y l a = some (decide (a ∈ l)) := by
  unfold mudlarkref06_Bad.f
  have h := rbad_l0 y l a hl l.length 0 k (by omega) (by omega)
  rw [List.drop_zero] at h
  exact h
theorem rCount_eq (y z : List Int) (hy : y.length ≤ 3000) : mudlarkref06_Count.f y z = some (blocksN y.length) := by
  have e : wrap64 (Int.tdiv (wrap64 ((y.length : Int) + 511)) 512) = blocksN y.length := by
    unfold blocksN
    rw [wrap64_id ((y.length : Int) + 511) (by omega) (by omega), Int.tdiv_eq_ediv_of_nonneg (by omega), wrap64_id _ (by omega) (by omega)]
    omega
  unfold mudlarkref06_Count.f
  rw [e]
/-- The numbers below i that are in l. -/
def preL (l : List Int) (i : Nat) : List Int := ((List.range i).map fun j : Nat => (j : Int)).filter fun x => decide (x ∈ l)
theorem preL_succ (l : List Int) (i : Nat) : preL l (i + 1) = preL l i ++ (if (i : Int) ∈ l then [(i : Int)] else []) := by
  unfold preL
  rw [List.range_succ, List.map_append, List.filter_append]
  congr 1
  by_cases h : (i : Int) ∈ l
  · rw [if_pos h]; simp [h]
  · rw [if_neg h]; simp [h]
theorem preL_len (l : List Int) (i : Nat) : (preL l i).length ≤ i := by
  unfold preL
  refine Nat.le_trans (List.length_filter_le _ _) ?_
  simp
theorem preL_mem (l : List Int) (i : Nat) (x : Int) : x ∈ preL l i ↔ x ∈ l ∧ 0 ≤ x ∧ x < (i : Int) := by
  unfold preL
  rw [List.mem_filter, List.mem_map]
  constructor
  · rintro ⟨⟨j, hj, rfl⟩, h⟩
    have := List.mem_range.1 hj
    exact ⟨of_decide_eq_true h, by omega, by omega⟩
  · rintro ⟨h, h0, h1⟩
    exact ⟨⟨x.toNat, List.mem_range.2 (by omega), by omega⟩, decide_eq_true h⟩
theorem preL_lt (l : List Int) (i : Nat) : (preL l i).Pairwise (· < ·) := by
  unfold preL
  refine List.Pairwise.filter _ ?_
  rw [List.pairwise_map]
  exact List.Pairwise.imp (fun h => by omega) List.pairwise_lt_range
theorem sorted_ext : ∀ (a b : List Int), a.Pairwise (· < ·) → b.Pairwise (· < ·) → (∀ x, x ∈ a ↔ x ∈ b) → a = b
  | [], [], _, _, _ => rfl
  | [], y :: b, _, _, h => absurd ((h y).2 (by simp)) (by simp)
  | x :: a, [], _, _, h => absurd ((h x).1 (by simp)) (by simp)
  | x :: a, y :: b, ha, hb, h => by
    have ha1 := List.pairwise_cons.1 ha
    have hb1 := List.pairwise_cons.1 hb
    have e : x = y := by
      rcases List.mem_cons.1 ((h x).1 (by simp)) with h1 | h1
      · exact h1
      · rcases List.mem_cons.1 ((h y).2 (by simp)) with h2 | h2
        · exact h2.symm
        · have := ha1.1 y h2
          have := hb1.1 x h1
          omega
    subst e
    rw [sorted_ext a b ha1.2 hb1.2 (fun z => ?_)]
    constructor
    · intro hz
      have := ha1.1 z hz
      rcases List.mem_cons.1 ((h z).1 (by simp [hz])) with h1 | h1
      · omega
      · exact h1
    · intro hz
      have := hb1.1 z hz
      rcases List.mem_cons.1 ((h z).2 (by simp [hz])) with h1 | h1
      · omega
      · exact h1
theorem mem_compact2 (zs : List Int) (x : Int) (h : x ∈ zs) : x ∈ Lib.compact zs := by
  obtain ⟨j, hj, e, hmin⟩ : ∃ j, ∃ hj : j < zs.length, zs[j] = x ∧ ∀ q, (hq : q < j) → zs[q] ≠ x := by
    induction zs with
    | nil => cases h
    | cons y zs ih =>
      by_cases hy : y = x
      · exact ⟨0, by simp, by simpa using hy, fun q hq => by omega⟩
      · obtain ⟨j, hj, e, hm⟩ := ih ((List.mem_cons.1 h).resolve_left (fun e => hy e.symm))
        refine ⟨j + 1, by simp; omega, by simpa using e, fun q hq => ?_⟩
        cases q with
        | zero => simpa using hy
        | succ q => simpa using hm q (by omega)
  unfold Lib.compact Lib.compactUpTo
  refine List.mem_map.2 ⟨j, List.mem_filter.2 ⟨List.mem_range.2 hj, ?_⟩, ?_⟩
  · unfold Lib.keeps
    rw [decide_eq_true_eq]
    by_cases h0 : j = 0
    · exact .inl h0
    · refine .inr ?_
      rw [getElem!_pos zs.toArray j (by simpa using hj), getElem!_pos zs.toArray (j - 1) (by simp; omega)]
      simp only [List.getElem_toArray]
      rw [e]
      exact fun h2 => hmin (j - 1) (by omega) h2.symm
  · rw [getElem!_pos zs.toArray j (by simpa using hj)]
    simpa using e
theorem badL_mem2 (n : Nat) (l : List Int) (x : Int) (h : x ∈ l) (h0 : 0 ≤ x) (h1 : x < blocksN n) : x ∈ badL n l := by
  unfold badL
  refine mem_compact2 _ _ (List.mem_mergeSort.2 (List.mem_filter.2 ⟨h, ?_⟩))
  unfold delP
  rw [decide_eq_false (by omega), decide_eq_false (by omega)]
  rfl
theorem badL_pre (n : Nat) (l : List Int) : badL n l = preL l ((n + 511) / 512) := by
  refine sorted_ext _ _ (badL_lt n l) (preL_lt l _) (fun x => ?_)
  rw [preL_mem]
  constructor
  · intro h
    exact badL_mem n l x h
  · rintro ⟨h, h0, h1⟩
    exact badL_mem2 n l x h h0 h1
theorem makeB_snoc (b z : List Int) (x : Int) : makeB b (z ++ [x]) = zeroB (makeB b z) x := by unfold makeB; rw [List.foldl_append]; rfl
set_option maxRecDepth 100000 in
/-- The document's Make: its rounds. -/
theorem rmake (b l : List Int) (hb : b.length ≤ 3000) (hl : l.length ≤ 1000) : ∀ m i : Nat, i + m = (b.length + 511) / 512 → ∀ f, m * 600 + 2000 ≤ f →
    mudlarkref06_Make.l0 f b l (i : Int) (makeB b (preL l i)) (preL l i) = some (makeB b (preL l ((b.length + 511) / 512)), preL l ((b.length + 511) / 512)) := by
  intro m
  induction m with
  | zero =>
    intro i hi f hf
    obtain ⟨f, rfl⟩ : ∃ g, f = g + 1 := ⟨f - 1, by omega⟩
    rw [mudlarkref06_Make.l0, rCount_eq _ _ (by rw [makeB_len]; exact hb), Option.bind_some, makeB_len, if_neg (by unfold blocksN; omega), show i = (b.length + 511) / 512 by omega]
  | succ m ih =>
    intro i hi f hf
    obtain ⟨f, rfl⟩ : ∃ g, f = g + 1 := ⟨f - 1, by omega⟩
    rw [mudlarkref06_Make.l0, rCount_eq _ _ (by rw [makeB_len]; exact hb), Option.bind_some, makeB_len, if_pos (by unfold blocksN; omega), rBad_eq _ l _ (by omega) f (by omega), Option.bind_some]
    by_cases h : (i : Int) ∈ l
    · rw [if_pos (by rw [decide_eq_true h]), if_pos (by have := preL_len l i; omega)]
      have e : preL l i ++ [(i : Int)] = preL l (i + 1) := by rw [preL_succ, if_pos h]
      rw [e]
      have hin : ∀ (d p f : Nat) (y : List Int), p + d = min (512 * i + 512) b.length → 512 * i ≤ p → d + 1 + (m * 600 + 2000) ≤ f → y.length = b.length → (∀ j, y[j]? = if 512 * i ≤ j ∧ j < p then ((makeB b (preL l i))[j]?).map (fun _ => 0) else (makeB b (preL l i))[j]?) →
          mudlarkref06_Make.l1 f b l (i : Int) (p : Int) y (preL l (i + 1)) = some (makeB b (preL l ((b.length + 511) / 512)), preL l ((b.length + 511) / 512)) := by
        intro d
        induction d with
        | zero =>
          intro p f y hp hp2 hf hyl hy
          obtain ⟨f, rfl⟩ : ∃ g, f = g + 1 := ⟨f - 1, by omega⟩
          have hz : y = makeB b (preL l (i + 1)) := by
            rw [← e, makeB_snoc]
            apply List.ext_getElem?
            intro j
            rw [hy j, zeroB_get, Int.toNat_natCast]
            by_cases hj : j < b.length
            · by_cases h1 : 512 * i ≤ j ∧ j < p
              · rw [if_pos h1, if_pos (by omega)]
              · rw [if_neg h1, if_neg (by omega)]
            · rw [List.getElem?_eq_none (by rw [makeB_len]; omega)]
              simp
          have hfin := ih (i + 1) (by omega) f (by omega)
          rw [mudlarkref06_Make.l1, wrap64_id (512 * (i : Int)) (by omega) (by omega), wrap64_id (512 * (i : Int) + 512) (by omega) (by omega), hz, next_i i (by omega)]
          by_cases h1 : (p : Int) < 512 * (i : Int) + 512
          · rw [if_pos h1, if_neg (by omega)]
            exact hfin
          · rw [if_neg h1]
            exact hfin
        | succ d ihd =>
          intro p f y hp hp2 hf hyl hy
          obtain ⟨f, rfl⟩ : ∃ g, f = g + 1 := ⟨f - 1, by omega⟩
          rw [mudlarkref06_Make.l1, wrap64_id (512 * (i : Int)) (by omega) (by omega), wrap64_id (512 * (i : Int) + 512) (by omega) (by omega), if_pos (by omega), if_pos (by omega), if_pos (by omega), if_pos (by omega), next_i p (by omega), Int.toNat_natCast]
          refine ihd (p + 1) f _ (by omega) (by omega) (by omega) (by rw [List.length_set]; exact hyl) (fun j => ?_)
          rw [List.getElem?_set]
          by_cases hj : p = j
          · subst hj
            rw [if_pos rfl, if_pos (by omega), if_pos (by omega), List.getElem?_eq_getElem (by rw [makeB_len]; omega)]
            rfl
          · rw [if_neg hj, hy j]
            by_cases h1 : 512 * i ≤ j ∧ j < p
            · rw [if_pos h1, if_pos (by omega)]
            · rw [if_neg h1, if_neg (by omega)]
      have := hin (min (512 * i + 512) b.length - 512 * i) (512 * i) f (makeB b (preL l i)) (by omega) (by omega) (by omega) (makeB_len _ _) (fun j => by rw [if_neg (by omega)])
      rw [wrap64_id (512 * (i : Int)) (by omega) (by omega)]
      rw [show ((512 * i : Nat) : Int) = 512 * (i : Int) by omega] at this
      exact this
    · rw [if_neg (by rw [decide_eq_false h]; decide), next_i i (by omega)]
      have e : preL l i = preL l (i + 1) := by rw [preL_succ, if_neg h, List.append_nil]
      have := ih (i + 1) (by omega) f (by omega)
      rw [← e] at this
      exact this
theorem rMake_eq (b l : List Int) (hb : b.length ≤ 3000) (hl : l.length ≤ 1000) (k : Nat) (hk : 8000 ≤ k) : mudlarkref06_Make.f k b l = some (makeB b (badL b.length l), badL b.length l) := by
  unfold mudlarkref06_Make.f
  rw [if_pos (by simp; omega), List.nil_append, badL_pre]
  have h := rmake b l hb hl ((b.length + 511) / 512) 0 (by omega) k (by omega)
  have e : preL l 0 = [] := rfl
  rw [e] at h
  exact h
end Go.Proofs.Ytmniedinfepmjaa.Pure
