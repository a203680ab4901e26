/- medium.Bad of an image: what is contained. No conditions. -/
import Derived.Test.YtmniedinfepmjaaPx2
import Derived.Test.YtmniedinfepmjaaHMake
namespace Go.Proofs.Ytmniedinfepmjaa.P
open Go Go.RowKit Go.Lib Go.Proofs Go.Proofs.YtmniedinfepmjaaW.PrintWords Go.Proofs.YtmniedinfepmjaaW.PrintLast Go.Proofs.YtmniedinfepmjaaW.PrintMore
set_option linter.unusedVariables false
set_option linter.unusedSimpArgs false

theorem drop_cons0 (l : List Int) (i : Nat) (h : i < l.length) : l.drop i = l[i] :: l.drop (i + 1) := List.drop_eq_getElem_cons h
theorem idx0_l0 (l : List Int) (a : Int) (hl : l.length ≤ 1000000000000) : ∀ (m i f : Nat), i + m = l.length → m + 1 ≤ f → ∃ r, slices_Index_int_int.l0 f l a (l.length : Int) (i : Int) = some r ∧ decide (r ≥ 0) = decide (a ∈ l.drop i)
  | m, i, 0, h1, h2 => (by omega : False).elim
  | m, i, f + 1, h1, h2 => by
    rw [slices_Index_int_int.l0]
    cases m with
    | zero =>
      rw [if_neg (by omega), List.drop_eq_nil_of_le (by omega)]
      exact ⟨-1, rfl, by simp⟩
    | succ m =>
      rw [if_pos (by omega), if_pos (by omega), if_pos (by omega), rd_get l i (by omega), drop_cons0 l i (by omega)]
      by_cases h : a = l[i]
      · rw [if_pos h]
        exact ⟨_, rfl, by rw [decide_eq_true (by omega), decide_eq_true (by rw [← h]; exact List.mem_cons_self)]⟩
      · rw [if_neg h, next_i i (by omega)]
        obtain ⟨r, hr, e⟩ := idx0_l0 l a hl m (i + 1) f (by omega) (by omega)
        refine ⟨r, hr, ?_⟩
        rw [e]
        exact decide_eq_decide.2 ⟨fun h2 => List.mem_cons_of_mem _ h2, fun h2 => (List.mem_cons.1 h2).resolve_left h⟩
theorem Bad_eq0 (y l : List Int) (a : Int) (hl : l.length ≤ 1000000000000) (k : Nat) (hk : l.length + 1 ≤ k) : medium_Bad.f k y l a = some (decide (a ∈ l)) := by
  unfold medium_Bad.f slices_Contains_int_int.f slices_Index_int_int.f
  obtain ⟨r, hr, e⟩ := idx0_l0 l a hl l.length 0 k (by omega) (by omega)
  have hr' : slices_Index_int_int.l0 k l a (l.length : Int) 0 = some r := hr
  rw [hr', Option.bind_some, Option.bind_some, e, List.drop_zero]
end Go.Proofs.Ytmniedinfepmjaa.P
