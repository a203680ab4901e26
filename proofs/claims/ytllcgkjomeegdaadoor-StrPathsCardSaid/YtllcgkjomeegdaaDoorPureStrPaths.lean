/- The pure statement of StrPaths: Split and Clean of any text, and of paths, are what the chapter says. No conditions. -/
import Derived.Test.YtllcgkjomeegdaaDoorHPathRef
namespace Go.Proofs.YtllcgkjomeegdaaDoor.Pure
open Go Go.RowKit Go.Proofs.YtllcgkjomeegdaaDoor.P Go.Proofs.YtllcgkjomeegdaaDoorW.PrintWords Go.Proofs.YtllcgkjomeegdaaDoorW.PrintLast

theorem StrPaths : mudlarklaw02_StrPaths.Pure := by
  intro a0 l1 _ _ h1 w1
  refine Ev.rounds (g := fun k => mudlarklaw02_StrPaths.f k a0 l1) ?_
  obtain ⟨p, hp, hp2⟩ := Path_ev l1 (wf_bytes w1) (by omega)
  have hyes : Ev (fun k => mudlarklaw02_StrPaths.j0 k a0 l1 true) true := by
    refine Ev.step (f := fun _ => (mudlarklaw02_known.f).bind fun t => some t) (fun k => by simp only [mudlarklaw02_StrPaths.j0, if_true]) ?_
    rw [known_all]
    exact Ev.now true
  by_cases h : (a0.size : Int) > 300
  · refine Ev.congr (fun k => ?_) hyes
    unfold mudlarklaw02_StrPaths.f
    rw [if_pos h]
  · have hz : 1 + p.size ≤ 9223372036854775807 := by omega
    have hno : Ev (fun k => mudlarklaw02_StrPaths.j0 k a0 l1 false) true := by
      refine Ev.step (f := fun k => (mudlarklaw02_paths.f k a0).bind fun t136 => (if t136 = true then ((mudlarklaw02_Path.f k l1).bind fun t137 => ((mudlarklaw02_paths.f k t137).bind fun t138 => (if t138 = true then ((mudlarklaw02_Path.f k l1).bind fun t139 => (if 1 + t139.size ≤ 9223372036854775807 then ((mudlarklaw02_paths.f k ((⟨#[47]⟩ : ByteArray) ++ t139)).bind fun t140 => (some t140)) else (none))) else (some false)))) else (some false))) (fun k => ?_) ?_
      · simp only [mudlarklaw02_StrPaths.j0]
        rw [if_neg (by simp)]
      · refine Ev.bind (paths_eq a0 (by omega)) ?_
        simp only [if_true]
        refine Ev.bind hp (Ev.bind (paths_eq p (by omega)) ?_)
        simp only [if_true]
        refine Ev.bind hp ?_
        simp only [if_pos hz]
        refine Ev.bind (paths_eq _ (by rw [ByteArray.size_append]; show 1 + p.size ≤ _; omega)) (Ev.now true)
    refine Ev.congr (fun k => ?_) hno
    unfold mudlarklaw02_StrPaths.f
    rw [if_neg h, known_all]
    rfl
end Go.Proofs.YtllcgkjomeegdaaDoor.Pure
