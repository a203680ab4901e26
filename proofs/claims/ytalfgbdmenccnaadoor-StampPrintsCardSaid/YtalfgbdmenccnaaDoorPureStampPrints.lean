/- The pure statement of StampPrints: Print, Norm and Less of any times are what the chapter says. No conditions. -/
import Derived.Test.YtalfgbdmenccnaaDoorHStampL
import Derived.Test.YtalfgbdmenccnaaDoorHPrints
namespace Go.Proofs.YtalfgbdmenccnaaDoor.Pure
open Go Go.RowKit Go.Proofs.YtalfgbdmenccnaaDoor.P Go.Proofs.YtalfgbdmenccnaaDoorW.PrintWords Go.Proofs.YtalfgbdmenccnaaDoorW.PrintLast Go.Proofs.YtalfgbdmenccnaaDoorW.PrintMore
theorem StampPrints : mudlarklaw04_StampPrints.Pure := by
  intro a b c d n s
  refine Ev.rounds (g := fun k => mudlarklaw04_StampPrints.f k a b c d n s) ?_
  have hj : ∀ p q u v : Int, Ev (fun k => mudlarklaw04_StampPrints.j0 k true p q u v) true := fun p q u v => by
    have h1 := Less_ev p q u v
    have h2 := Less_ev p q p q
    refine Ev.step (f := fun k => (stamp_Print.f k p q).bind fun t194 => ((mudlarkref04_Print.f k p q).bind fun t195 => (if t194.toList = t195.toList then ((stamp_Print.f k u v).bind fun t196 => ((mudlarkref04_Print.f k u v).bind fun t197 => (if t196.toList = t197.toList then ((stamp_Less.f k p q u v).bind fun t198 => ((mudlarkref04_Less.f p q u v).bind fun t199 => (if (t198 == t199) = true then ((stamp_Less.f k p q p q).bind fun t200 => ((mudlarkref04_Less.f p q p q).bind fun t201 => (some (t200 == t201)))) else (some false)))) else (some false)))) else (some false)))) (fun k => ?_) ?_
    · simp only [mudlarklaw04_StampPrints.j0]
      rw [if_pos trivial]
    · rw [RefLess_eq, RefLess_eq]
      simp only [Option.bind_some]
      refine Ev.bind (g := fun k => stamp_Print.f k p q) (Print_ev p q) ?_
      refine Ev.bind (g := fun k => mudlarkref04_Print.f k p q) (RefPrint_ev p q) ?_
      simp only [if_true]
      refine Ev.bind (g := fun k => stamp_Print.f k u v) (Print_ev u v) ?_
      refine Ev.bind (g := fun k => mudlarkref04_Print.f k u v) (RefPrint_ev u v) ?_
      simp only [if_true]
      refine Ev.bind (g := fun k => stamp_Less.f k p q u v) h1 ?_
      simp only [beq_self_eq_true, if_true]
      refine Ev.bind (g := fun k => stamp_Less.f k p q p q) h2 ?_
      simp only [beq_self_eq_true]
      exact Ev.now true
  have h1 := Less_ev a b c d
  have hr : mudlarkref04_Norm.f a b = some (clampS a, clampN b) := rfl
  have hx : (clampS a == clampS a && clampN b == clampN b) = true := by simp
  unfold mudlarklaw04_StampPrints.f
  rw [norm_eq, hr, RefLess_eq]
  simp only [Option.bind_some, hx, if_true]
  refine Ev.bind known_all ?_
  simp only [if_true]
  refine Ev.bind (g := fun k => stamp_Print.f k a b) (Print_ev a b) ?_
  refine Ev.bind (g := fun k => mudlarkref04_Print.f k a b) (RefPrint_ev a b) ?_
  simp only [if_true]
  refine Ev.bind (g := fun k => stamp_Less.f k a b c d) h1 ?_
  simp only [beq_self_eq_true]
  exact hj _ _ _ _
end Go.Proofs.YtalfgbdmenccnaaDoor.Pure
