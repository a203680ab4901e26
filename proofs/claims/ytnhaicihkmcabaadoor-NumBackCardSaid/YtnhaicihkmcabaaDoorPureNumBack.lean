/- The pure statement of NumBack: what is put is so wide, and parsed as it was. No conditions. -/
import Derived.Test.YtnhaicihkmcabaaDoorHNumParse
import Derived.Test.YtnhaicihkmcabaaDoorPx10
namespace Go.Proofs.YtnhaicihkmcabaaDoor.Pure
open Go.RowKit Go.Proofs.YtnhaicihkmcabaaDoor.P Go.Proofs.YtnhaicihkmcabaaDoorW.PrintWords Go.Proofs.YtnhaicihkmcabaaDoorW.PrintLast Go.Proofs.YtnhaicihkmcabaaDoorW.PrintMore

theorem NumBack : mudlarklaw01_NumBack.Pure := by
  intro a0 a1 a2 h0 h1 h2
  refine Ev.rounds (g := fun k => mudlarklaw01_NumBack.f k a0 a1 a2) ?_
  have hr := shr_range a0 a1 h0 h1
  have w2 := wf_u8 h2
  unfold mudlarklaw01_NumBack.f
  rw [Int.tmod_eq_emod_of_nonneg w2.1]
  obtain ⟨x, hx⟩ : ∃ x, x = shr .i64 a0 ((2 + (Int.tmod a1 60)) % 256) := ⟨_, rfl⟩
  simp only [← hx] at hr ⊢
  obtain ⟨s, hs⟩ : ∃ s : Nat, s = (a2 % 31).toNat := ⟨_, rfl⟩
  have e1 : wrap64 (2 + wrap64 (a2 % 31)) = ((s + 2 : Nat) : Int) := by rw [wrap64_id (a2 % 31) (by omega) (by omega), wrap64_id _ (by omega) (by omega)]; omega
  have hs2 : s ≤ 30 := by omega
  simp only [e1]
  clear hx hs e1 h0 h1 h2
  have hj : Ev (fun k => mudlarklaw01_NumBack.j0 k x false) true := by
    have h12 := put_twelve x hr.1 hr.2
    have hp := put_parse x 10 (by omega) (by omega) h12
    refine Ev.step (f := fun k => (num_Put.f k x ((10 + 2 : Nat) : Int)).bind fun bt335 => ((num_Parse.f k bt335.1).bind fun bt339 => ((mudlarklaw01_known.f).bind fun t341 => (if t341 = true then (if bt335.2 = true then (if bt339.2 = true then (some (bt339.1 == x)) else (some false)) else (some false)) else (some false))))) (fun k => ?_) ?_
    · simp only [mudlarklaw01_NumBack.j0]
      rw [if_neg (by simp)]
      rfl
    · refine Ev.bind (Put_eq _ _) (Ev.bind (Parse_eq _ (put_bytes x 10 (by omega) (by omega)) (Nat.lt_of_le_of_lt (put_short x 10 (by omega) (by omega)) (by omega))) ?_)
      refine Ev.congr (fun k => ?_) (Ev.now true)
      rw [hp.2]
      simp only [mudlarklaw01_known.f, Option.bind_some, if_true, if_pos h12, beq_self_eq_true]
  refine Ev.bind (Put_eq _ _) (Ev.bind (Parse_eq _ (put_bytes x s (by omega) (by omega)) (Nat.lt_of_le_of_lt (put_short x s (by omega) (by omega)) (by omega))) ?_)
  by_cases h : (putF x ((s + 2 : Nat) : Int)).2 = true
  · have hp := put_parse x s (by omega) (by omega) h
    rw [hp.2]
    refine Ev.congr (fun k => ?_) hj
    rw [if_pos h, if_pos (by rw [hp.1]), if_pos rfl, if_pos rfl]
  · have hn := put_none x s (by omega) (by omega) h
    refine Ev.congr (fun k => ?_) hj
    rw [if_neg h, hn]
    rfl
end Go.Proofs.YtnhaicihkmcabaaDoor.Pure
