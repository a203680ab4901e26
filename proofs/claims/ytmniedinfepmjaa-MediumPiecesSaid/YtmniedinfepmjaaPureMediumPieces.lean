/- The statement MediumPieces, in lists and numbers. No conditions. -/
import Derived.Test.YtmniedinfepmjaaPureMediumTwice
import Derived.Test.YtmniedinfepmjaaHBadEq
import Derived.Test.YtmniedinfepmjaaHPieces
namespace Go.Proofs.Ytmniedinfepmjaa.Pure
open Go Go.RowKit Go.Lib Go.Proofs Go.Proofs.Ytmniedinfepmjaa.P Go.Proofs.YtmniedinfepmjaaW.PrintWords Go.Proofs.YtmniedinfepmjaaW.PrintLast Go.Proofs.YtmniedinfepmjaaW.PrintMore
set_option linter.unusedVariables false
set_option linter.unusedSimpArgs false

theorem cutE_mn (y : List Int) (e : Int) (h0 : 0 ≤ e) : ((cutE y e).length : Int) = mn (y.length : Int) e := by
  unfold cutE mn
  by_cases h : e < (y.length : Int)
  · rw [if_pos h, if_pos ⟨h0, h⟩, List.length_take]; omega
  · rw [if_neg h, if_neg (by omega)]
theorem cutE_get (y : List Int) (e : Int) (p : Nat) (hp : p < (cutE y e).length) : (cutE y e)[p]? = y[p]? := by
  unfold cutE at hp ⊢
  split
  · rename_i h
    rw [if_pos h, List.length_take] at hp
    rw [List.getElem?_take, if_pos (by omega)]
  · rfl
/-- What an image has at a place. -/
theorem piece_at (y bad : List Int) (e : Int) (p : Nat) (hp : p < (cutE y e).length) :
    rd (makeB (cutE y e) (badL (cutE y e).length bad)) (p : Int) = if ((p / 512 : Nat) : Int) ∈ badL (cutE y e).length bad then 0 else rd y (p : Int) := by
  have hl : (makeB (cutE y e) (badL (cutE y e).length bad)).length = (cutE y e).length := makeB_len _ _
  have hly := cutE_len y e
  have hg := makeB_get (badL (cutE y e).length bad) (cutE y e) p
  rw [cutE_get y e p hp, List.getElem?_eq_getElem (by rw [hl]; exact hp), List.getElem?_eq_getElem (show p < y.length by omega)] at hg
  rw [rd_get _ p (by rw [hl]; exact hp), rd_get y p (by omega)]
  by_cases h : ((p / 512 : Nat) : Int) ∈ badL (cutE y e).length bad
  · rw [if_pos ⟨_, h, Int.toNat_natCast _⟩] at hg
    rw [if_pos h]
    exact Option.some.inj hg
  · rw [if_neg (by
      rintro ⟨x, hx, e2⟩
      obtain ⟨_, h0, _⟩ := badL_mem _ _ x hx
      have e3 : ((p / 512 : Nat) : Int) = x := by omega
      rw [e3] at h
      exact h hx)] at hg
    rw [if_neg h]
    exact Option.some.inj hg
theorem pieces_l0 (y X B : List Int) (hX : X.length ≤ y.length) (hy : y.length ≤ 3000) (hB : B.length ≤ 100) (hat : ∀ p : Nat, p < X.length → rd X (p : Int) = if ((p / 512 : Nat) : Int) ∈ B then 0 else rd y (p : Int)) : ∀ (m i f : Nat), i + m = X.length → m + 200 ≤ f → mudlarklaw06_MediumPieces.l0 f y (i : Int) X B X B = some true
  | m, i, 0, h1, h2 => (by omega : False).elim
  | m, i, f + 1, h1, h2 => by
    rw [mudlarklaw06_MediumPieces.l0]
    cases m with
    | zero => rw [if_neg (by omega), known_eq f (by omega), Option.bind_some, if_pos rfl, Same_self X B (by omega) f (by omega), Option.bind_some]
    | succ m =>
      have ih := pieces_l0 y X B hX hy hB hat m (i + 1) f (by omega) (by omega)
      have hq : wrap64 (Int.tdiv (i : Int) 512) = ((i / 512 : Nat) : Int) := by rw [Int.tdiv_eq_ediv_of_nonneg (by omega), wrap64_id _ (by omega) (by omega)]; omega
      have h3 := hat i (by omega)
      rw [if_pos (by omega), hq, Bad_eq0 X B _ (by omega) f (by omega), Option.bind_some]
      by_cases hb : ((i / 512 : Nat) : Int) ∈ B
      · rw [if_pos hb] at h3
        rw [decide_eq_true hb, if_pos rfl, if_pos (by omega), if_pos h3, Option.bind_some, if_pos rfl, next_i i (by omega)]
        exact ih
      · rw [if_neg hb] at h3
        rw [decide_eq_false hb, if_neg (by decide), Option.bind_some, if_neg (by decide), if_pos (by omega), if_pos (by omega), if_pos h3, next_i i (by omega)]
        exact ih
theorem MediumPieces : mudlarklaw06_MediumPieces.Pure := by
  intro c n bad e l4 l5 hcl hcs hc hn _ hbad _ he _ h4 _ _ h5 _
  refine ⟨10000, ?_⟩
  have hn1 : 0 ≤ n ∧ n ≤ 65535 := by simpa [Lit.wf, IntKind.min, IntKind.max, IntKind.signed, IntKind.bits] using hn
  have he1 : 0 ≤ e ∧ e ≤ 65535 := by simpa [Lit.wf, IntKind.min, IntKind.max, IntKind.signed, IntKind.bits] using he
  obtain ⟨y, hy, hyl⟩ := Bytes_ex c (by omega) n hn1.1 (by omega) 10000 (by omega)
  unfold mudlarklaw06_MediumPieces.f
  rw [wrap64_id ((bad.length : Int) + (l4.length : Int)) (by omega) (by omega), wrap64_id ((bad.length : Int) + (l4.length : Int) + (l5.length : Int)) (by omega) (by omega), wrap64_id e (by omega) (by omega)]
  by_cases h40 : (bad.length : Int) + (l4.length : Int) + (l5.length : Int) > 40
  · rw [if_pos h40, known_eq _ (by omega), Option.bind_some]
  · have hcl2 := cutE_len y e
    have hbl := badL_len (cutE y e).length bad
    have hml := makeB_len (badL (cutE y e).length bad) (cutE y e)
    have hf : ∀ l : List Int, l.length ≤ 40 → medium_New.f y bad e l = some (makeB (cutE y e) (badL (cutE y e).length bad), badL (cutE y e).length bad) := fun l hl => by
      unfold medium_New.f
      rw [if_pos ⟨by omega, by omega, by omega⟩]
    rw [if_neg h40, hy, Option.bind_some, hf l4 (by omega), Option.bind_some, hf l5 (by omega), Option.bind_some]
    simp only
    rw [if_pos (by rw [hml]; exact cutE_mn y e he1.1)]
    exact pieces_l0 y _ _ (by omega) hyl (by omega) (fun p hp => piece_at y bad e p (by rw [hml] at hp; exact hp)) (makeB (cutE y e) (badL (cutE y e).length bad)).length 0 10000 (by omega) (by omega)
end Go.Proofs.Ytmniedinfepmjaa.Pure
