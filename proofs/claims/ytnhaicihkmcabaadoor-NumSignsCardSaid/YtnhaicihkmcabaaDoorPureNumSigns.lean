/- The pure statement of NumSigns: with noughts, or ones, ahead a number of bits is the same. No conditions. -/
import Derived.Test.YtnhaicihkmcabaaDoorHNumSay
import Derived.Test.YtnhaicihkmcabaaDoorPx4
namespace Go.Proofs.YtnhaicihkmcabaaDoor.Pure
open Go Go.RowKit Go.Proofs.YtnhaicihkmcabaaDoor.P Go.Proofs.YtnhaicihkmcabaaDoorW.PrintWords Go.Proofs.YtnhaicihkmcabaaDoorW.PrintLast Go.Proofs.YtnhaicihkmcabaaDoorW.PrintMore

def fillF (x : Int) : Int := if x < 0 then 255 else 0
theorem quot_far (x : Int) (h0 : -2305843009213693952 ≤ x) (h1 : x ≤ 2305843009213693952) (j : Nat) : x / 256 ^ (9 + j) = if x < 0 then -1 else 0 := by
  have e9 : (256 : Int) ^ 9 = 4722366482869645213696 := by decide
  have hp : (4722366482869645213696 : Int) ≤ 256 ^ (9 + j) := by
    rw [Int.pow_add, e9]
    have := p256 j
    have h := Int.mul_le_mul_of_nonneg_left (show (1 : Int) ≤ 256 ^ j by omega) (show (0 : Int) ≤ 4722366482869645213696 by decide)
    omega
  obtain ⟨p, hpp⟩ : ∃ p : Int, p = 256 ^ (9 + j) := ⟨_, rfl⟩
  rw [← hpp] at hp ⊢
  by_cases h : x < 0
  · rw [if_pos h]
    have a : -1 ≤ x / p := by rw [Int.le_ediv_iff_mul_le (by omega)]; omega
    have b : x / p < 0 := by rw [Int.ediv_lt_iff_lt_mul (by omega)]; omega
    omega
  · rw [if_neg h]
    exact Int.ediv_eq_zero_of_lt (by omega) (by omega)
theorem bdigs_fill (x : Int) (h0 : -2305843009213693952 ≤ x) (h1 : x ≤ 2305843009213693952) : ∀ j : Nat, bdigs (9 + j) x = List.replicate j (fillF x) ++ bdigs 9 x
  | 0 => rfl
  | j + 1 => by
    have e := bdigs_top (9 + j) x
    rw [← Nat.add_assoc, e, bdigs_fill x h0 h1 j, quot_far x h0 h1 j, List.replicate_succ]
    unfold fillF
    split <;> rfl
theorem fits_far (x : Int) (h0 : -2305843009213693952 ≤ x) (h1 : x ≤ 2305843009213693952) (j : Nat) : fits x (9 + j) := by
  have q := quot_far x h0 h1 j
  refine ⟨by omega, by omega, ?_, ?_⟩ <;> rw [q] <;> split <;> omega
theorem whole_list (x : Int) (h0 : -2305843009213693952 ≤ x) (h1 : x ≤ 2305843009213693952) (m : Nat) : Go.bits .or .u8 128 (fillF x) :: List.replicate m (fillF x) ++ [fillF x] ++ bdigs 9 x = raise128 (bdigs (9 + (m + 1) + 1) x) := by
  rw [show 9 + (m + 1) + 1 = 9 + (m + 2) by omega, bdigs_fill x h0 h1 (m + 2), List.replicate_succ, List.replicate_succ']
  have e : Go.bits .or .u8 128 (fillF x) = fillF x % 128 + 128 := by
    unfold fillF
    split <;> decide +kernel
  rw [e]
  simp [raise128]
theorem signsLoop (a2 x : Int) (h0 : -2305843009213693952 ≤ x) (h1 : x ≤ 2305843009213693952) (m : Nat) (hm : m ≤ 8) (e2 : wrap64 (Int.tmod a2 9) = (m : Int)) : ∀ (d i : Nat), m - i = d → i ≤ m →
    Ev (fun k => mudlarklaw01_NumSigns.l0 k a2 x (raise128 (bdigs 10 x)) (fillF x) (Go.bits .or .u8 128 (fillF x) :: List.replicate i (fillF x)) (i : Int)) true
  | 0, i, hd, hi => by
    have ei : i = m := by omega
    subst ei
    have e10 : raise128 (bdigs 10 x) = (fillF x % 128 + 128) :: bdigs 9 x := by rw [bdigs_fill x h0 h1 1]; rfl
    have ebin : binF (raise128 (bdigs (9 + (i + 1) + 1) x)) = (x, true) := binF_fits x _ (fits_far x h0 h1 (i + 1))
    have hB : Ev (fun k => num_Binary.f k (raise128 (bdigs (9 + (i + 1) + 1) x))) (x, true) := by
      rw [← ebin]
      exact Binary_eq _ (raise_bytes (bdigs_bytes _ _)) (by rw [raise_len]; omega)
    have efirst : (if x ≥ 0 then (fillF x % 128 + 128 - 128) % 256 else fillF x % 128 + 128) = fillF x := by
      unfold fillF
      by_cases h : x < 0
      · rw [if_neg (by omega), if_pos h]; decide
      · rw [if_pos (by omega), if_neg h]; decide
    refine Ev.step (f := fun k => (num_Binary.f k (raise128 (bdigs (9 + (i + 1) + 1) x))).bind fun t => if t.2 = true then some (t.1 == x) else some false) (fun k => ?_) ?_
    · simp only [mudlarklaw01_NumSigns.l0]
      rw [e2, if_neg (by omega), e10]
      have el : ((fillF x % 128 + 128) :: bdigs 9 x).length = 10 := by rw [List.length_cons, bdigs_length]
      have er : rd ((fillF x % 128 + 128) :: bdigs 9 x) 0 = fillF x % 128 + 128 := rfl
      have ed : ((fillF x % 128 + 128) :: bdigs 9 x).drop 1 = bdigs 9 x := rfl
      have ex : (Go.bits .or .u8 128 (fillF x) :: List.replicate i (fillF x)).length = i + 1 := by simp
      rw [el, er, ed, if_pos (by omega)]
      by_cases h : x ≥ 0
      · rw [if_pos h] at efirst
        rw [if_pos h, efirst, if_pos (by rw [ex]; omega), Option.bind_some, if_pos (by omega), Option.bind_some, if_pos (by rw [List.length_append, ex, bdigs_length]; simp; omega), whole_list x h0 h1 i]
        rfl
      · rw [if_neg h] at efirst
        rw [if_neg h, efirst, if_pos (by rw [ex]; omega), Option.bind_some, if_pos (by omega), Option.bind_some, if_pos (by rw [List.length_append, ex, bdigs_length]; simp; omega), whole_list x h0 h1 i]
        rfl
    · refine Ev.bind hB ?_
      simp only [if_true, beq_self_eq_true]
      exact Ev.now _
  | d + 1, i, hd, hi => by
    have ih := signsLoop a2 x h0 h1 m hm e2 d (i + 1) (by omega) (by omega)
    refine Ev.step (fun k => ?_) ih
    simp only [mudlarklaw01_NumSigns.l0]
    rw [e2, if_pos (by omega), if_pos (by rw [List.length_cons, List.length_replicate]; omega), List.cons_append, ← List.replicate_succ', wrap64_id _ (by omega) (by omega)]
    rfl

theorem NumSigns : mudlarklaw01_NumSigns.Pure := by
  intro a0 a1 a2 h0 h1 h2
  refine Ev.rounds (g := fun k => mudlarklaw01_NumSigns.f k a0 a1 a2) ?_
  have hr := shr_range a0 a1 h0 h1
  have w2 := wf_u8 h2
  unfold mudlarklaw01_NumSigns.f
  obtain ⟨x, hx⟩ : ∃ x, x = shr .i64 a0 ((2 + (Int.tmod a1 60)) % 256) := ⟨_, rfl⟩
  simp only [← hx] at hr ⊢
  have e2 : wrap64 (Int.tmod a2 9) = (((a2 % 9).toNat : Nat) : Int) := by rw [Int.tmod_eq_emod_of_nonneg w2.1, wrap64_id (a2 % 9) (by omega) (by omega)]; omega
  have hm : (a2 % 9).toNat ≤ 8 := by omega
  have hL := signsLoop a2 x hr.1 hr.2 _ hm e2 _ 0 rfl (by omega)
  have hb : putBinF x 10 = (raise128 (bdigs 10 x), true) := by
    have := putBin_at x 8 (by omega)
    rw [if_pos (fits_far x hr.1 hr.2 0)] at this
    exact this
  refine Ev.bind (PutBinary_eq _ _) ?_
  rw [hb]
  simp only [if_true]
  rw [raise_len]
  refine Ev.step (f := fun k => mudlarklaw01_NumSigns.j1 k a2 x (raise128 (bdigs 10 x)) (fillF x)) (fun k => ?_) (Ev.step (fun k => ?_) hL)
  · simp only [mudlarklaw01_NumSigns.j0]
    rw [if_neg (by decide)]
    unfold fillF
    by_cases h : x < 0
    · rw [if_pos h, if_pos h]
    · rw [if_neg h, if_neg h]
  · simp only [mudlarklaw01_NumSigns.j1]
    rfl
end Go.Proofs.YtnhaicihkmcabaaDoor.Pure
