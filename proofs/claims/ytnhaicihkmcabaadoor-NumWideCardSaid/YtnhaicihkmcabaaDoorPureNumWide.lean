/- The pure statement of NumWide: what has room in few digits has room in more. No conditions. -/
import Derived.Test.YtnhaicihkmcabaaDoorHNumSay
import Derived.Test.YtnhaicihkmcabaaDoorPx3
namespace Go.Proofs.YtnhaicihkmcabaaDoor.Pure
open Go.RowKit Go.Proofs.YtnhaicihkmcabaaDoor.P Go.Proofs.YtnhaicihkmcabaaDoorW.PrintWords Go.Proofs.YtnhaicihkmcabaaDoorW.PrintLast Go.Proofs.YtnhaicihkmcabaaDoorW.PrintMore

theorem NumWide : mudlarklaw01_NumWide.Pure := by
  intro a0 a1 a2 h0 h1 h2
  refine Ev.rounds (g := fun k => mudlarklaw01_NumWide.f k a0 a1 a2) ?_
  have hr := shr_range a0 a1 h0 h1
  have w2 := wf_u8 h2
  unfold mudlarklaw01_NumWide.f
  rw [Int.tmod_eq_emod_of_nonneg w2.1]
  obtain ⟨x, hx⟩ : ∃ x, x = shr .i64 a0 ((2 + (Int.tmod a1 60)) % 256) := ⟨_, rfl⟩
  simp only [← hx] at hr ⊢
  obtain ⟨s, hs⟩ : ∃ s : Nat, s = (a2 % 20).toNat := ⟨_, rfl⟩
  have e1 : wrap64 (2 + wrap64 (a2 % 20)) = ((s + 2 : Nat) : Int) := by rw [wrap64_id (a2 % 20) (by omega) (by omega), wrap64_id _ (by omega) (by omega)]; omega
  have e2 : wrap64 (((s + 2 : Nat) : Int) + 1) = ((s + 1 + 2 : Nat) : Int) := by rw [wrap64_id _ (by omega) (by omega)]; omega
  have hs2 : s ≤ 19 := by omega
  simp only [e1, e2]
  clear hx hs e1 e2 h0 h1 h2
  refine Ev.bind (PutOctal_all _ _) (Ev.bind (PutOctal_all _ _) (Ev.bind (PutBinary_eq _ _) (Ev.bind (PutBinary_eq _ _) (Ev.bind (Put_eq _ _) ?_))))
  rw [putOct_at x s (by omega) (by omega), putOct_at x (s + 1) (by omega) (by omega), putBin_at x s (by omega), putBin_at x (s + 1) (by omega), put_at x s (by omega) (by omega)]
  refine Ev.congr (fun k => ?_) (Ev.now true)
  simp only [mudlarklaw01_known.f, Option.bind_some, if_true]
  by_cases hO : octRoom x (s + 1)
  · have hO2 := octRoom_more x (s + 1) hO
    have hx0 : x ≥ 0 := hO.1
    by_cases hB : fits x (s + 1)
    · have hB2 := fits_more x (s + 1) hB
      simp [if_pos hO, if_pos hO2, if_pos hB, if_pos hB2, hx0, digs_length]; omega
    · simp [if_pos hO, if_pos hO2, if_neg hB, hx0, digs_length]; omega
  · by_cases hB : fits x (s + 1)
    · have hB2 := fits_more x (s + 1) hB
      simp [if_neg hO, if_pos hB, if_pos hB2, raise_len]
    · simp [if_neg hO, if_neg hB]
end Go.Proofs.YtnhaicihkmcabaaDoor.Pure
