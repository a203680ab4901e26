/- The pure statement of SumSigned: both sums differ by 256 for each byte above 127. No conditions. -/
import Derived.Test.YtmhomfhdelocjaaDoorHPure
import Derived.Test.YtmhomfhdelocjaaDoorPx8
namespace Go.Proofs.YtmhomfhdelocjaaDoor.Pure
open Go.RowKit Go.Proofs.YtmhomfhdelocjaaDoor.P Go.Proofs.YtmhomfhdelocjaaDoorW.PrintWords Go.Proofs.YtmhomfhdelocjaaDoorW.PrintLast

/-- How many bytes are above 127, elsewhere than in the sum. -/
def many : Nat → List Int → Nat
  | _, [] => 0
  | i, c :: t => (if c > 127 ∧ ¬ (148 ≤ i ∧ i < 156) then 1 else 0) + many (i + 1) t
theorem many_le : ∀ (l : List Int) (i : Nat), many i l ≤ l.length
  | [], _ => Nat.le_refl _
  | c :: t, i => by
    have := many_le t (i + 1)
    simp only [many, List.length_cons]
    split <;> omega
theorem differ : ∀ (l : List Int) (i : Nat), sU i l - sS i l = 256 * (many i l : Int)
  | [], _ => by simp [sU, sS, many]
  | c :: t, i => by
    have ih := differ t (i + 1)
    simp only [sU, sS, many]
    by_cases h : 148 ≤ i ∧ i < 156
    · rw [if_pos h, if_pos h, if_neg (by simp [h])]
      push_cast
      omega
    · rw [if_neg h, if_neg h]
      by_cases h2 : c > 127
      · rw [if_pos h2, if_pos ⟨h2, h⟩]
        push_cast
        omega
      · rw [if_neg h2, if_neg (fun hh => h2 hh.1)]
        push_cast
        omega
theorem countLoop (x : List Int) (hx : x.length = 512) (hb : Bytes x) : ∀ (d i : Nat) (m : Nat), 512 - i = d → i ≤ 512 → m + many i (x.drop i) = many 0 x → m ≤ 512 →
    Ev (fun k => mudlarklaw05_SumSigned.l0 k x (m : Int) (i : Int)) true
  | 0, i, m, hd, hi, hm, hm5 => by
    obtain rfl : i = 512 := by omega
    rw [List.drop_eq_nil_of_le (by omega)] at hm
    have hu := sU_bound x 0 hb
    have hs := sS_bound x 0 hb
    have hdf := differ x 0
    have e : (wrap64 (sU 0 x - sS 0 x) == wrap64 (256 * (m : Int))) = true := by
      rw [wrap64_id _ (by omega) (by omega), wrap64_id _ (by omega) (by omega), hdf]
      have : (m : Int) = (many 0 x : Int) := by simp [many] at hm; omega
      rw [this]
      exact beq_self_eq_true _
    have h : Ev (fun k => (mudlarklaw05_known.f k).bind fun t280 => (if t280 = true then ((sum_Unsigned.f k x).bind fun t281 => ((sum_Signed.f k x).bind fun t282 => (some ((wrap64 (t281 - t282)) == (wrap64 (256 * (m : Int))))))) else (some false))) true := by
      refine Ev.bind known_eq ?_
      simp only [if_true]
      refine Ev.bind (Unsigned_eq x hb (by omega)) (Ev.bind (Signed_eq x hb (by omega)) ?_)
      rw [e]
      exact Ev.now _
    refine Ev.step (fun k => ?_) h
    simp only [mudlarklaw05_SumSigned.l0]
    rw [if_neg (by omega)]
  | d + 1, i, m, hd, hi, hm, hm5 => by
    have hlt : i < x.length := by omega
    have ed : x.drop i = x[i] :: x.drop (i + 1) := List.drop_eq_getElem_cons hlt
    have e5 : wrap64 ((i : Int) + 1) = ((i + 1 : Nat) : Int) := by rw [wrap64_id _ (by omega) (by omega)]; push_cast; rfl
    have e6 : wrap64 ((m : Int) + 1) = ((m + 1 : Nat) : Int) := by rw [wrap64_id _ (by omega) (by omega)]; push_cast; rfl
    have hml := many_le x 0
    rw [ed] at hm
    simp only [many] at hm
    by_cases h1 : x[i] > 127
    · by_cases h2 : 148 ≤ i ∧ i < 156
      · rw [if_neg (by simp [h2])] at hm
        have ih := countLoop x hx hb d (i + 1) m (by omega) (by omega) (by omega) hm5
        refine Ev.step (fun k => ?_) ih
        simp only [mudlarklaw05_SumSigned.l0]
        rw [if_pos (by omega), if_pos (by omega), if_pos (by omega), rd_at x i hlt, if_pos h1, if_neg (by omega), if_neg (by omega), e5]
      · rw [if_pos ⟨h1, h2⟩] at hm
        have hm6 : many (i + 1) (x.drop (i + 1)) + 1 + m ≤ 512 := by omega
        have ih := countLoop x hx hb d (i + 1) (m + 1) (by omega) (by omega) (by omega) (by omega)
        refine Ev.step (fun k => ?_) ih
        simp only [mudlarklaw05_SumSigned.l0]
        rw [if_pos (by omega), if_pos (by omega), if_pos (by omega), rd_at x i hlt, if_pos h1, e5, e6]
        by_cases h3 : (i : Int) < 148
        · rw [if_pos h3]
        · rw [if_neg h3, if_pos (by omega)]
    · rw [if_neg (fun hh => h1 hh.1)] at hm
      have ih := countLoop x hx hb d (i + 1) m (by omega) (by omega) (by omega) hm5
      refine Ev.step (fun k => ?_) ih
      simp only [mudlarklaw05_SumSigned.l0]
      rw [if_pos (by omega), if_pos (by omega), if_pos (by omega), rd_at x i hlt, if_neg h1, e5]
theorem SumSigned : mudlarklaw05_SumSigned.Pure := by
  intro l0 a1 _ h0 w0 w1
  obtain ⟨x, hx, hx5, hxb⟩ := Block_ev l0 a1 (wf_bytes w0) h0 (wf_u8 w1)
  refine Ev.rounds (g := fun k => mudlarklaw05_SumSigned.f k l0 a1) ?_
  unfold mudlarklaw05_SumSigned.f
  exact Ev.bind hx (countLoop x hx5 hxb 512 0 0 (by omega) (by omega) (by rw [List.drop_zero, Nat.zero_add]) (by omega))
end Go.Proofs.YtmhomfhdelocjaaDoor.Pure
