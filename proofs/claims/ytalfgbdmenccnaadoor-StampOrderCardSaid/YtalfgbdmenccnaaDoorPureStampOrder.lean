/- The pure statement of StampOrder: of two times one is ahead, or they are the same; what is ahead of a third one's ahead is, too. No conditions. -/
import Derived.Test.YtalfgbdmenccnaaDoorHStampL
import Derived.Test.YtalfgbdmenccnaaDoorHOrder
namespace Go.Proofs.YtalfgbdmenccnaaDoor.Pure
open Go Go.RowKit Go.Proofs.YtalfgbdmenccnaaDoor.P Go.Proofs.YtalfgbdmenccnaaDoorW.PrintWords Go.Proofs.YtalfgbdmenccnaaDoorW.PrintLast Go.Proofs.YtalfgbdmenccnaaDoorW.PrintMore
theorem ltT_true (s n s2 n2 : Int) : ltT s n s2 n2 = true ↔ (s < s2 ∨ (s = s2 ∧ n < n2)) := decide_eq_true_iff
theorem ltT_false (s n s2 n2 : Int) : ltT s n s2 n2 = false ↔ ¬ (s < s2 ∨ (s = s2 ∧ n < n2)) := decide_eq_false_iff_not
theorem StampOrder : mudlarklaw04_StampOrder.Pure := by
  intro a b c d e f
  refine Ev.rounds (g := fun k => mudlarklaw04_StampOrder.f k a b c d e f) ?_
  have hn : stamp_Norm.f (clampS a) (clampN b) = some (clampS a, clampN b) := by
    rw [norm_eq, clampS_id _ (clampS_in a), clampN_id _ (by have := clampN_in b; omega)]
  have h1 := Less_ev a b c d
  have h2 := Less_ev c d a b
  have h3 := Less_ev c d e f
  have h4 := Less_ev a b e f
  unfold mudlarklaw04_StampOrder.f
  rw [norm_eq, norm_eq]
  simp only [Option.bind_some, hn]
  refine Ev.bind (g := fun k => stamp_Less.f k a b c d) h1 ?_
  refine Ev.bind (g := fun k => stamp_Less.f k c d a b) h2 ?_
  refine Ev.bind (g := fun k => stamp_Less.f k c d e f) h3 ?_
  refine Ev.bind known_all ?_
  have hx : (clampS a == clampS a && clampN b == clampN b) = true := by simp
  simp only [if_true, hx]
  generalize clampS a = s at *
  generalize clampN b = n at *
  generalize clampS c = s2 at *
  generalize clampN d = n2 at *
  generalize clampS e = s3 at *
  generalize clampN f = n3 at *
  have hd : ∀ x y : Int, (x == y) = decide (x = y) := fun x y => rfl
  cases c1 : ltT s n s2 n2 with
  | true =>
    have g1 := (ltT_true _ _ _ _).1 c1
    cases c2 : ltT s2 n2 s n with
    | true =>
      have g2 := (ltT_true _ _ _ _).1 c2
      omega
    | false =>
      have hne : (true == (!(s == s2) || !(n == n2))) = true := by
        by_cases q : s = s2
        · have q2 : ¬ n = n2 := by omega
          simp [q2]
        · simp [q]
      simp only [if_true, Bool.false_eq_true, if_false, hne]
      cases c3 : ltT s2 n2 s3 n3 with
      | true =>
        have g3 := (ltT_true _ _ _ _).1 c3
        have c4 : ltT s n s3 n3 = true := (ltT_true _ _ _ _).2 (by omega)
        rw [c4] at h4
        simp only [if_true]
        refine Ev.bind h4 ?_
        simp only [if_true]
        exact Ev.now true
      | false =>
        simp only [Bool.false_eq_true, if_false]
        exact Ev.now true
  | false =>
    have g1 := (ltT_false _ _ _ _).1 c1
    have hne : (ltT s2 n2 s n == (!(s == s2) || !(n == n2))) = true := by
      cases c2 : ltT s2 n2 s n with
      | true =>
        have g2 := (ltT_true _ _ _ _).1 c2
        by_cases q : s = s2
        · have q2 : ¬ n = n2 := by omega
          simp [q2]
        · simp [q]
      | false =>
        have g2 := (ltT_false _ _ _ _).1 c2
        have q : s = s2 := by omega
        have q2 : n = n2 := by omega
        simp [q, q2]
    simp only [Bool.false_eq_true, if_false, hne, if_true]
    exact Ev.now true
end Go.Proofs.YtalfgbdmenccnaaDoor.Pure
