/- The pure statement of NumPuts: what is put is what the chapter says. No conditions. -/
import Derived.Test.YtnhaicihkmcabaaDoorHNumRef
import Derived.Test.YtnhaicihkmcabaaDoorPx6
namespace Go.Proofs.YtnhaicihkmcabaaDoor.Pure
open Go Go.RowKit Go.Proofs.YtnhaicihkmcabaaDoor.P Go.Proofs.YtnhaicihkmcabaaDoorW.PrintWords Go.Proofs.YtnhaicihkmcabaaDoorW.PrintLast Go.Proofs.YtnhaicihkmcabaaDoorW.PrintMore

theorem puts_true (n size : Int) (h0 : -9223372036854775808 ≤ n) (h1 : n ≤ 9223372036854775807) : Ev (fun k => mudlarklaw01_puts.f k n size) true := by
  unfold mudlarklaw01_puts.f
  refine Ev.bind (PutOctal_all _ _) (Ev.bind (RefPutOctal_all _ _) (Ev.bind (PutBinary_eq _ _) (Ev.bind (RefPutBinary_eq _ _ h0 h1) (Ev.bind (Put_eq _ _) (Ev.bind (RefPut_eq _ _ h0 h1) ?_)))))
  simp only [if_true, beq_self_eq_true]
  exact Ev.now true
theorem shr_in (x c : Int) (h0 : -9223372036854775808 ≤ x) (h1 : x ≤ 9223372036854775807) : -9223372036854775808 ≤ shr .i64 x c ∧ shr .i64 x c ≤ 9223372036854775807 := by
  unfold shr
  have hp : (0 : Int) < 2 ^ min c.toNat IntKind.i64.bits := Int.pow_pos (by decide)
  obtain ⟨p, hpp⟩ : ∃ p : Int, p = 2 ^ min c.toNat IntKind.i64.bits := ⟨_, rfl⟩
  rw [← hpp] at hp ⊢
  constructor
  · rw [Int.le_ediv_iff_mul_le hp]
    have : (-9223372036854775808 : Int) * p ≤ -9223372036854775808 * 1 := Int.mul_le_mul_of_nonpos_left (by omega) (by omega)
    omega
  · have : x / p < 9223372036854775808 := by
      rw [Int.ediv_lt_iff_lt_mul hp]
      have : (9223372036854775808 : Int) * 1 ≤ 9223372036854775808 * p := Int.mul_le_mul_of_nonneg_left (by omega) (by omega)
      omega
    omega
theorem NumPuts : mudlarklaw01_NumPuts.Pure := by
  intro a0 a1 a2 h0 h1 h2
  refine Ev.rounds (g := fun k => mudlarklaw01_NumPuts.f k a0 a1 a2) ?_
  have w2 := wf_u8 h2
  have ha : -9223372036854775808 ≤ a0 ∧ a0 ≤ 9223372036854775807 := by
    simp [Lit.wf, IntKind.min, IntKind.max, IntKind.signed, IntKind.bits] at h0
    omega
  have hyes : Ev (fun k => mudlarklaw01_NumPuts.j0 k a0 a1 a2 true) true := by
    refine Ev.step (f := fun _ => some true) (fun k => ?_) (Ev.now true)
    simp only [mudlarklaw01_NumPuts.j0, if_true]
    rfl
  have hno : Ev (fun k => mudlarklaw01_NumPuts.j0 k a0 a1 a2 false) true := by
    have hc : 0 ≤ Int.tmod a2 64 := by rw [Int.tmod_eq_emod_of_nonneg w2.1]; omega
    have hs := shr_in a0 (Int.tmod a2 64) ha.1 ha.2
    refine Ev.step (f := fun k => (mudlarklaw01_puts.f k a0 a1).bind fun t236 => (if t236 = true then ((mudlarklaw01_puts.f k a0 (wrap64 (Int.tmod a2 36))).bind fun t237 => (if t237 = true then ((mudlarklaw01_puts.f k (shr .i64 a0 (Int.tmod a2 64)) (wrap64 (Int.tmod a2 14))).bind fun t238 => (some t238)) else (some false))) else (some false))) (fun k => ?_) ?_
    · simp only [mudlarklaw01_NumPuts.j0]
      rw [if_neg (by simp)]
      simp only [if_pos hc]
    · refine Ev.bind (puts_true a0 a1 ha.1 ha.2) ?_
      simp only [if_true]
      refine Ev.bind (puts_true a0 _ ha.1 ha.2) ?_
      simp only [if_true]
      exact Ev.bind (puts_true _ _ hs.1 hs.2) (Ev.now true)
  by_cases h : a1 > 1000
  · refine Ev.congr (fun k => ?_) hyes
    unfold mudlarklaw01_NumPuts.f
    rw [if_pos h]
  · refine Ev.congr (fun k => ?_) hno
    unfold mudlarklaw01_NumPuts.f
    rw [if_neg h]
    rfl
end Go.Proofs.YtnhaicihkmcabaaDoor.Pure
