/- The pure statement of SumSeals: a sealed block is what the chapter says. No conditions. -/
import Derived.Test.YtmhomfhdelocjaaDoorHRef
import Derived.Test.YtmhomfhdelocjaaDoorPx6
namespace Go.Proofs.YtmhomfhdelocjaaDoor.Pure
open Go Go.RowKit Go.Proofs.YtmhomfhdelocjaaDoor.P Go.Proofs.YtmhomfhdelocjaaDoorW.PrintWords Go.Proofs.YtmhomfhdelocjaaDoorW.PrintLast

theorem SumSeals : mudlarklaw05_SumSeals.Pure := by
  intro l0 l1 a2 _ h0 w0 _ h1 w1 w2
  refine Ev.rounds (g := fun k => mudlarklaw05_SumSeals.f k l0 l1 a2) ?_
  have b0 := wf_bytes w0
  obtain ⟨y, hy, hy5, hyb⟩ := Block_ev l1 a2 (wf_bytes w1) h1 (wf_u8 w2)
  have hyes : Ev (fun k => mudlarklaw05_SumSeals.j0 k l0 l1 a2 true) true := by
    refine Ev.step (f := fun k => (mudlarklaw05_known.f k).bind fun t => some t) (fun k => by simp only [mudlarklaw05_SumSeals.j0, if_true]) ?_
    exact Ev.bind known_eq (Ev.now true)
  by_cases h : (l0.length : Int) > 1500
  · refine Ev.congr (fun k => ?_) hyes
    unfold mudlarklaw05_SumSeals.f
    rw [if_pos h]
  · have hl0 : l0.length < 9223372036854775807 := by omega
    have hly : y.length < 9223372036854775807 := by omega
    have hno : Ev (fun k => mudlarklaw05_SumSeals.j0 k l0 l1 a2 false) true := by
      refine Ev.step (f := fun k => (sum_Seal.f l0).bind fun t235 => ((mudlarkref05_Seal.f k l0).bind fun t238 => (if (strOfNums t235).toList = (strOfNums t238).toList then ((mudlarklaw05_Block.f k l1 a2).bind fun t241 => ((sum_Seal.f t241).bind fun t244 => ((mudlarklaw05_Block.f k l1 a2).bind fun t247 => ((mudlarkref05_Seal.f k t247).bind fun t250 => (some ((strOfNums t244).toList == (strOfNums t250).toList)))))) else (some false)))) (fun k => ?_) ?_
      · simp only [mudlarklaw05_SumSeals.j0]
        rw [if_neg (by simp)]
      · rw [Seal_eq l0 b0]
        simp only [Option.bind_some]
        refine Ev.bind (RefSeal_eq l0 b0 hl0) ?_
        simp only [if_true]
        refine Ev.bind hy ?_
        rw [Seal_eq y hyb]
        simp only [Option.bind_some]
        refine Ev.bind hy (Ev.bind (RefSeal_eq y hyb hly) ?_)
        simp only [beq_self_eq_true]
        exact Ev.now true
    refine Ev.congr (f := fun k => (mudlarklaw05_known.f k).bind fun t233 => (mudlarklaw05_SumSeals.j0 k l0 l1 a2 (!t233))) (fun k => ?_) (Ev.bind known_eq hno)
    unfold mudlarklaw05_SumSeals.f
    rw [if_neg h]
end Go.Proofs.YtmhomfhdelocjaaDoor.Pure
