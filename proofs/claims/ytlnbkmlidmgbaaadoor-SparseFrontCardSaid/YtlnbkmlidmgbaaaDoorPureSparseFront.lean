/- The statement SparseFront, in lists and numbers. No conditions. -/
import Derived.Test.YtlnbkmlidmgbaaaDoorHSp
import Derived.Test.YtlnbkmlidmgbaaaDoorPx4
namespace Go.Proofs.YtlnbkmlidmgbaaaDoor.Pure
open Go Go.RowKit Go.Proofs.YtlnbkmlidmgbaaaDoor.P Go.Proofs.YtlnbkmlidmgbaaaDoorW.PrintWords Go.Proofs.YtlnbkmlidmgbaaaDoorW.PrintLast Go.Proofs.YtlnbkmlidmgbaaaDoorW.PrintMore
set_option linter.unusedVariables false
set_option linter.unusedSimpArgs false

theorem SparseFront : mudlarklaw09_SparseFront.Pure := by
  intro l0 a1 hl hs hb ha
  obtain ⟨l, n, e, hP, hok⟩ := Parts_ev l0 hs hb
  refine Ev.rounds (g := fun k => mudlarklaw09_SparseFront.f k l0 a1) ?_
  unfold mudlarklaw09_SparseFront.f
  refine Ev.bind (g := fun k => mudlarklaw09_Parts.f k l0) hP ?_
  refine Ev.bind (g := fun k => mudlarkref09_Check.f k l n e) (RCheck_ev l n e) ?_
  by_cases c : checkM l n e = 0
  · obtain ⟨c1, c2, c3, c4, c5⟩ := checkM_zero.1 c
    have h0 := hok.n0
    have h1 := hok.n1
    have h2 := hok.len
    have hf : ∀ p ∈ l, 0 ≤ p.f1 := fun p hp => by have := (hok.each p hp).1; omega
    have ha2 := wf_u16 ha
    have t0 := Int.tmod_nonneg 400 ha2.1
    have t1 := Int.tmod_lt_of_pos a1 (show (0 : Int) < 400 by omega)
    obtain ⟨q, hq⟩ : ∃ q, q = mn (wrap64 (Int.tmod a1 400)) n := ⟨_, rfl⟩
    have hq0 : 0 ≤ q ∧ q ≤ n := by rw [hq, wrap64_id _ (by omega) (by omega)]; unfold mn; split <;> omega
    rw [← hq]
    simp only [if_pos c]
    refine Ev.bind (g := fun k => sparse_Front.f k l q) (Front_ev l q (by omega) hf (by omega) (by omega)) ?_
    simp only [known_all, Option.bind_some, if_true]
    refine Ev.bind (g := fun k => sparse_Check.f k (frontM l q) q e) (Check_ev _ q e (by omega) (by omega)) ?_
    have hz : checkM (frontM l q) q e = 0 := checkM_zero.2 ⟨by have := front_len l q; omega, c2, c3, front_ok l q 0 e c4 hq0.1, front_sum l q 0 e c4 hq0.1 (by omega)⟩
    simp only [if_pos hz]
    refine Ev.bind (g := fun k => sparse_Front.f k l n) (Front_ev l n (by omega) hf (by omega) (by omega)) ?_
    rw [hok.sum, front_all l (fun p hp => (hok.each p hp).1)]
    refine Ev.bind (g := fun k => mudlarkref09_Same.f k l l) (Same_ev l (by omega)) ?_
    refine Ev.congr (f := fun k => (sparse_Front.f k l (-1)).bind fun t => some ((t.length : Int) == 0)) (fun k => by rw [if_pos rfl]) ?_
    refine Ev.bind (g := fun k => sparse_Front.f k l (-1)) (Front_ev l (-1) (by omega) hf (by omega) (by omega)) ?_
    have hm : frontM l (-1) = [] := by cases l <;> simp [frontM]
    rw [hm]
    exact Ev.now true
  · simp only [if_neg c, known_all, Option.bind_some]
    exact Ev.now true
end Go.Proofs.YtlnbkmlidmgbaaaDoor.Pure
