/- The statement MediumBlocks, in lists and numbers. No conditions. -/
import Derived.Test.YtmniedinfepmjaaHMed2
import Derived.Test.YtmniedinfepmjaaHBlocksW
namespace Go.Proofs.Ytmniedinfepmjaa.Pure
open Go Go.RowKit Go.Lib Go.Proofs Go.Proofs.Ytmniedinfepmjaa.P Go.Proofs.YtmniedinfepmjaaW.PrintWords Go.Proofs.YtmniedinfepmjaaW.PrintLast Go.Proofs.YtmniedinfepmjaaW.PrintMore
set_option linter.unusedVariables false
set_option linter.unusedSimpArgs false


theorem MediumBlocks : mudlarklaw06_MediumBlocks.Pure := by
  intro x0 x1 b bad i c n k hx0 hx1 hb hbad hc hn
  refine ⟨10000, ?_⟩
  have hn1 : 0 ≤ n ∧ n ≤ 65535 := by simpa [Lit.wf, IntKind.min, IntKind.max, IntKind.signed, IntKind.bits] using hn
  obtain ⟨y, hy, hyl⟩ := Bytes_ex c hc n hn1.1 (by omega) 9999 (by omega)
  have hknown : ∀ b2 bad2 i2 c2 n2 k2 x02 x12, mudlarklaw06_MediumBlocks.j0 10000 b2 bad2 i2 c2 n2 k2 true x02 x12 = some true := by
    intro b2 bad2 i2 c2 n2 k2 x02 x12
    rw [mudlarklaw06_MediumBlocks.j0, if_pos rfl, known_eq _ (by omega), Option.bind_some]
  unfold mudlarklaw06_MediumBlocks.f
  by_cases h1 : (x0.length : Int) > 3000
  · rw [if_pos h1, hknown]
  rw [if_neg h1]
  by_cases h2 : (b.length : Int) > 3000
  · rw [if_pos h2, hknown]
  rw [if_neg h2]
  have hw : wrap64 ((bad.length : Int) + (x1.length : Int)) = (bad.length : Int) + (x1.length : Int) := wrap64_id _ (by omega) (by omega)
  rw [hw]
  by_cases h3 : (bad.length : Int) + (x1.length : Int) > 50
  · rw [if_pos h3, hknown]
  rw [if_neg h3, known_eq _ (by omega), Option.bind_some, mudlarklaw06_MediumBlocks.j0, if_neg (by decide), hy, Option.bind_some, Option.bind_some]
  have hl5 : ([wrap64 (Int.tmod k 7), ((Int.tdiv k 7) % 256) % 7, (-1), 3, 3] : List Int).length = 5 := rfl
  generalize ([wrap64 (Int.tmod k 7), ((Int.tdiv k 7) % 256) % 7, (-1), 3, 3] : List Int) = z at hl5
  have hs1 := badL_len b.length bad
  have hs2 := badL_len y.length z
  rw [Make_eq b bad (by omega) (by omega), Option.bind_some, rMake_eq b bad (by omega) (by omega) _ (by omega), Option.bind_some]
  simp only
  rw [Same_self _ _ (by omega) _ (by omega), Option.bind_some, if_pos rfl, Make_eq y z hyl (by omega), Option.bind_some, rMake_eq y z hyl (by omega) _ (by omega), Option.bind_some]
  simp only
  rw [Same_self _ _ (by omega) _ (by omega), Option.bind_some, if_pos rfl, tells_eq x0 x1 (by omega) (by omega) _ _ (by omega), Option.bind_some, if_pos rfl, tells_eq x0 x1 (by omega) (by omega) _ _ (by omega), Option.bind_some, if_pos rfl, tells_eq y z hyl (by omega) _ _ (by omega), Option.bind_some]
end Go.Proofs.Ytmniedinfepmjaa.Pure
