/- The statement SparseBack, in lists and numbers. No conditions. -/
import Derived.Test.YtlnbkmlidmgbaaaDoorHPackE
import Derived.Test.YtlnbkmlidmgbaaaDoorHTell
import Derived.Test.YtlnbkmlidmgbaaaDoorPx7
namespace Go.Proofs.YtlnbkmlidmgbaaaDoor.Pure
open Go Go.RowKit Go.Proofs.YtlnbkmlidmgbaaaDoor.P Go.Proofs.YtlnbkmlidmgbaaaDoorW.PrintWords Go.Proofs.YtlnbkmlidmgbaaaDoorW.PrintLast Go.Proofs.YtlnbkmlidmgbaaaDoorW.PrintMore
set_option linter.unusedVariables false
set_option linter.unusedSimpArgs false

theorem SparseBack : mudlarklaw09_SparseBack.Pure := by
  intro l0 a1 hl hs hb ha
  obtain ⟨b, hB, hbl⟩ := Holes_ev l0 a1 hb hs ha
  obtain ⟨p1, p2, p3, p4⟩ := packM_ok b
  obtain ⟨l, hle⟩ : ∃ l, l = (packM b).1 := ⟨_, rfl⟩
  obtain ⟨d, hde⟩ : ∃ d, d = (packM b).2 := ⟨_, rfl⟩
  rw [← hle] at p1 p2 p3 p4
  rw [← hde] at p2 p3
  have hll : l.length ≤ 8 := by omega
  have hsm := okF_small l 0 _ p1 (by omega)
  have hdl : d.length ≤ 100000 := by
    have h1 : ∀ (l : List S40) (m : Int), 0 ≤ m → (∀ p ∈ l, p.f1 ≤ m) → sumF l ≤ m * l.length := by
      intro l m hm
      induction l with
      | nil => intro _; simp [sumF]
      | cons q l ih =>
        intro h
        have h2 := ih (fun x hx => h x (by simp [hx]))
        have h3 := h q (by simp)
        simp only [sumF, List.length_cons]
        push_cast
        rw [Int.mul_add, Int.mul_one]
        omega
    have h2 := h1 l 4000 (by omega) (fun p hp => by have := (hsm p hp).2.2.2; omega)
    omega
  have hz : checkM l d.length b.length = 0 := checkM_zero.2 ⟨by omega, by omega, by omega, p1, p2⟩
  have hx := expand_f l b.length d (by omega) b hz (by omega) (by rw [Int.toNat_natCast]; exact p3)
  obtain ⟨s, s1, s2⟩ := print_parse l (fun p hp => by obtain ⟨a0, a2, a3, a4⟩ := hsm p hp; exact ⟨⟨a0, by omega⟩, a3, by omega⟩) (by omega)
  refine Ev.rounds (g := fun k => mudlarklaw09_SparseBack.f k l0 a1) ?_
  unfold mudlarklaw09_SparseBack.f
  refine Ev.bind (g := fun k => mudlarklaw09_Holes.f k l0 a1) hB ?_
  refine Ev.bind (g := fun k => sparse_Pack.f k b) (Pack_ev b (by omega)) ?_
  rw [← hle, ← hde]
  simp only [hx, s1, s2, known_all, Option.bind_some, if_true]
  refine Ev.bind (g := fun k => mudlarkref09_Same.f k l l) (Same_ev l (by omega)) ?_
  simp only [if_true]
  refine Ev.bind (g := fun k => sparse_Check.f k l (d.length : Int) (b.length : Int)) (Check_ev l _ _ (by omega) (by omega)) ?_
  rw [hz]
  exact Ev.now true
end Go.Proofs.YtlnbkmlidmgbaaaDoor.Pure
