/- Numbers of fields: which numbers have room. Plain arithmetic. No conditions. -/
import Derived.Test.YtnhaicihkmcabaaDoorHNumBin
namespace Go.Proofs.YtnhaicihkmcabaaDoor.P
open Go.RowKit Go.Shelf Go.Lib Go.Proofs.YtnhaicihkmcabaaDoorW.PrintWords Go.Proofs.YtnhaicihkmcabaaDoorW.PrintLast Go.Proofs.YtnhaicihkmcabaaDoorW.PrintMore
set_option linter.unusedVariables false
set_option linter.unusedSimpArgs false

theorem p256 (m : Nat) : (0 : Int) < 256 ^ m := Int.pow_pos (by decide)
theorem p8 (m : Nat) : (0 : Int) < 8 ^ m := Int.pow_pos (by decide)
theorem div_succ (n : Int) (m : Nat) : n / 256 ^ (m + 1) = n / 256 ^ m / 256 := by
  rw [Int.pow_succ, Int.ediv_ediv_of_nonneg (Int.le_of_lt (p256 m))]
theorem div_succ' (n : Int) (m : Nat) : n / 256 ^ (m + 1) = n / 256 / 256 ^ m := by
  rw [Int.pow_succ', Int.ediv_ediv_of_nonneg (by decide)]
theorem mod_succ (n : Int) (m : Nat) : n % 256 ^ (m + 1) = (n / 256 ^ m % 256) * 256 ^ m + n % 256 ^ m := by
  have h1 := Int.mul_ediv_add_emod n (256 ^ m)
  have h2 := Int.mul_ediv_add_emod n (256 ^ (m + 1))
  have h3 := Int.mul_ediv_add_emod (n / 256 ^ m) 256
  rw [div_succ] at h2
  have h4 : (256 : Int) ^ (m + 1) = 256 ^ m * 256 := Int.pow_succ ..
  rw [h4] at h2 ⊢
  obtain ⟨q, hq⟩ : ∃ q, q = n / 256 ^ m := ⟨_, rfl⟩
  obtain ⟨p, hp⟩ : ∃ p : Int, p = 256 ^ m := ⟨_, rfl⟩
  rw [← hq] at h1 h2 h3 ⊢
  rw [← hp] at h1 h2 ⊢
  have h5 : p * q = p * (256 * (q / 256)) + p * (q % 256) := by rw [← Int.mul_add, h3]
  rw [Int.mul_assoc] at h2
  rw [Int.mul_comm (q % 256) p]
  omega
theorem bdigs_top : ∀ (m : Nat) (n : Int), bdigs (m + 1) n = (n / 256 ^ m % 256) :: bdigs m n
  | 0, n => by simp [bdigs]
  | m + 1, n => by
    rw [bdigs, bdigs_top m (n / 256), ← div_succ']
    rfl
theorem binLoop_val : ∀ (m : Nat) (n v : Int), (binLoop v (bdigs m n)).2 = true → (binLoop v (bdigs m n)).1 = v * 256 ^ m + n % 256 ^ m
  | 0, n, v => by
    simp only [bdigs, binLoop, binEnd]
    split
    · intro h; cases h
    · split
      · intro h; cases h
      · intro _; simp [Int.emod_one]
  | m + 1, n, v => by
    rw [bdigs_top, binLoop]
    split
    · intro h; cases h
    · split
      · intro h; cases h
      · intro h
        rw [binLoop_val m n _ h, mod_succ, Int.add_mul, Int.pow_succ', Int.mul_assoc]
        omega
theorem div_range (x p c : Int) (hp : 0 < p) (h0 : -c ≤ x) (h1 : x ≤ c) (hc : 0 ≤ c) : -c ≤ x / p ∧ x / p ≤ c := by
  constructor
  · rw [Int.le_ediv_iff_mul_le hp]
    have : (-c) * p ≤ (-c) * 1 := Int.mul_le_mul_of_nonpos_left (by omega) (by omega)
    omega
  · have : x / p < c + 1 := by
      rw [Int.ediv_lt_iff_lt_mul hp]
      have : (c + 1) * 1 ≤ (c + 1) * p := Int.mul_le_mul_of_nonneg_left (by omega) (by omega)
      omega
    omega
theorem binLoop_fits : ∀ (m : Nat) (n : Int), -4611686018427387904 ≤ n → n ≤ 4611686018427387904 → binLoop (n / 256 ^ m) (bdigs m n) = (n, true)
  | 0, n, h0, h1 => by
    simp only [bdigs, binLoop, binEnd, Int.pow_zero, Int.ediv_one]
    rw [if_neg (by omega), if_neg (by omega)]
  | m + 1, n, h0, h1 => by
    have hr := div_range (n / 256) (256 ^ m) 18014398509481984 (p256 m) (by omega) (by omega) (by omega)
    rw [← div_succ'] at hr
    rw [bdigs_top, binLoop, if_neg (by omega), if_neg (by omega), div_succ, show n / 256 ^ m / 256 * 256 + n / 256 ^ m % 256 = n / 256 ^ m by omega]
    exact binLoop_fits m n h0 h1
def fits (n : Int) (m : Nat) : Prop := -4611686018427387904 ≤ n ∧ n ≤ 4611686018427387904 ∧ -64 ≤ n / 256 ^ m ∧ n / 256 ^ m < 64
instance (n : Int) (m : Nat) : Decidable (fits n m) := by unfold fits; infer_instance
theorem binF_fits (n : Int) (m : Nat) (h : fits n m) : binF (raise128 (bdigs (m + 1) n)) = (n, true) := by
  obtain ⟨h0, h1, h2, h3⟩ := h
  rw [bdigs_top]
  simp only [raise128, binF]
  have hr := binLoop_fits m n h0 h1
  obtain ⟨q, hq⟩ : ∃ q, q = n / 256 ^ m := ⟨_, rfl⟩
  rw [← hq] at h2 h3 hr ⊢
  rw [if_neg (by omega), show binTop (q % 256 % 128 + 128) = q by unfold binTop; split <;> omega]
  exact hr
theorem putBin_eq (n : Int) (m : Nat) : putBin n (m + 1) = if fits n m then (raise128 (bdigs (m + 1) n), true) else ([], false) := by
  by_cases h : fits n m
  · rw [if_pos h]
    unfold putBin
    rw [binF_fits n m h, if_pos rfl, if_pos rfl]
  · rw [if_neg h]
    by_cases ho : n > 4611686018427387904 ∨ n < -4611686018427387904
    · exact putBin_out n _ ho
    · unfold putBin
      split
      · rename_i h1
        rw [if_neg]
        intro h2
        apply h
        rw [bdigs_top] at h1 h2
        simp only [raise128, binF] at h1 h2
        obtain ⟨q, hq⟩ : ∃ q, q = n / 256 ^ m := ⟨_, rfl⟩
        have hd := Int.mul_ediv_add_emod n (256 ^ m)
        have hp := p256 m
        unfold fits
        rw [← hq] at h1 h2 hd ⊢
        rw [if_neg (by omega)] at h1 h2
        have hv := binLoop_val m n _ h1
        rw [h2] at hv
        have e : 256 ^ m * q = 256 ^ m * binTop (q % 256 % 128 + 128) := by rw [Int.mul_comm (256 ^ m) (binTop _)]; omega
        have e2 : q = binTop (q % 256 % 128 + 128) := Int.eq_of_mul_eq_mul_left (by omega) e
        have e3 : -64 ≤ binTop (q % 256 % 128 + 128) ∧ binTop (q % 256 % 128 + 128) < 64 := by unfold binTop; split <;> omega
        refine ⟨by omega, by omega, by omega, by omega⟩
      · rfl
theorem fits_more (n : Int) (m : Nat) (h : fits n m) : fits n (m + 1) := by
  obtain ⟨h0, h1, h2, h3⟩ := h
  refine ⟨h0, h1, ?_, ?_⟩ <;> rw [div_succ] <;> omega
theorem oct_more (n : Int) (m : Nat) (h0 : 0 ≤ n) (h : ¬ n / 8 ^ m > 0) : ¬ n / 8 ^ (m + 1) > 0 := by
  rw [Int.pow_succ, ← Int.ediv_ediv_of_nonneg (Int.le_of_lt (p8 m))]
  omega
/-- A number of 64 bits, moved down by two or more. -/
theorem shr_range (a0 a1 : Int) (hw : (Lit.int .i64 a0).wf = true) (h1 : (Lit.int .u8 a1).wf = true) : -2305843009213693952 ≤ shr .i64 a0 ((2 + (Int.tmod a1 60)) % 256) ∧ shr .i64 a0 ((2 + (Int.tmod a1 60)) % 256) ≤ 2305843009213693952 := by
  have hb := wf_u8 h1
  have ha : -9223372036854775808 ≤ a0 ∧ a0 ≤ 9223372036854775807 := by
    simp [Lit.wf, IntKind.min, IntKind.max, IntKind.signed, IntKind.bits] at hw
    omega
  rw [Int.tmod_eq_emod_of_nonneg hb.1]
  unfold shr
  obtain ⟨s, hs⟩ : ∃ s : Nat, min ((2 + a1 % 60) % 256).toNat IntKind.i64.bits = s + 2 := ⟨min ((2 + a1 % 60) % 256).toNat 64 - 2, by show min _ 64 = _; omega⟩
  rw [hs]
  have e : (2 : Int) ^ (s + 2) = 4 * 2 ^ s := by rw [Int.pow_succ, Int.pow_succ]; omega
  rw [e, ← Int.ediv_ediv_of_nonneg (by decide)]
  have := div_range (a0 / 4) (2 ^ s) 2305843009213693952 (Int.pow_pos (by decide)) (by omega) (by omega) (by omega)
  omega
end Go.Proofs.YtnhaicihkmcabaaDoor.P
