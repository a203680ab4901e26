/- The pure statement of SumParts: two bytes of a sealed block that change places, elsewhere than in its sum, leave it right. No conditions. -/
import Derived.Test.YtmhomfhdelocjaaDoorHPure
namespace Go.Proofs.YtmhomfhdelocjaaDoor.Pure
open Go.RowKit Go.Proofs.YtmhomfhdelocjaaDoor.P Go.Proofs.YtmhomfhdelocjaaDoorW.PrintWords Go.Proofs.YtmhomfhdelocjaaDoorW.PrintLast

theorem sum_set : ∀ (l : List Int) (i : Nat) (v : Int) (h : i < l.length), (l.set i v).sum = l.sum - l[i] + v
  | c :: t, 0, v, _ => by simp; omega
  | c :: t, i + 1, v, h => by
    simp only [List.length_cons] at h
    simp only [List.set_cons_succ, List.sum_cons, List.getElem_cons_succ]
    rw [sum_set t i v (by omega)]
    omega
set_option maxRecDepth 20000 in
theorem swap_sU (y : List Int) (hy : y.length = 512) (i j : Nat) (hi : i < 148) (hj : 156 ≤ j) (hj2 : j < 512) (v u : Int) :
    sU 0 ((y.set i v).set j u) = sU 0 y - y[i] + v - y[j] + u := by
  have hl : ((y.set i v).set j u).length = 512 := by rw [List.length_set, List.length_set, hy]
  rw [sU_512 _ hl, sU_512 y hy]
  have e1 : ((y.set i v).set j u).take 148 = (y.take 148).set i v := by
    rw [List.take_set, List.take_set, List.set_eq_of_length_le (by rw [List.length_set, List.length_take]; omega)]
  have e2 : ((y.set i v).set j u).drop 156 = (y.drop 156).set (j - 156) u := by
    rw [List.drop_set, if_neg (by omega), List.drop_set_of_lt (by omega)]
  have h1 : i < (y.take 148).length := by rw [List.length_take]; omega
  have h2 : j - 156 < (y.drop 156).length := by rw [List.length_drop]; omega
  rw [e1, e2, sum_set _ i v h1, sum_set _ (j - 156) u h2]
  have g1 : (y.take 148)[i] = y[i] := List.getElem_take
  have g2 : (y.drop 156)[j - 156] = y[j] := by
    rw [List.getElem_drop]
    congr 1
    omega
  rw [g1, g2]
  omega
theorem swap_told (y : List Int) (hy : y.length = 512) (i j : Nat) (hi : i < 148) (hj : 156 ≤ j) (v u : Int) : toldF ((y.set i v).set j u) = toldF y := by
  unfold toldF
  rw [List.length_set, List.length_set, hy]
  simp only [if_true]
  congr 1
  rw [List.take_set, List.take_set, List.set_eq_of_length_le (by rw [List.length_set, List.length_take]; omega), List.drop_set_of_lt (by omega)]
theorem SumParts : mudlarklaw05_SumParts.Pure := by
  intro l0 a1 a2 a3 _ h0 w0 w1 w2 w3
  obtain ⟨x, hx, hx5, hxb⟩ := Block_ev l0 a1 (wf_bytes w0) h0 (wf_u8 w1)
  have r2 := wf_u16 w2
  have r3 := wf_u16 w3
  refine Ev.rounds (g := fun k => mudlarklaw05_SumParts.f k l0 a1 a2 a3) ?_
  unfold mudlarklaw05_SumParts.f
  refine Ev.bind hx ?_
  rw [Seal_eq x hxb]
  simp only [Option.bind_some]
  obtain ⟨i, hi⟩ : ∃ i, i = Int.tmod (wrap64 a2) 148 := ⟨_, rfl⟩
  obtain ⟨j, hj⟩ : ∃ j, j = wrap64 (156 + Int.tmod (wrap64 a3) 356) := ⟨_, rfl⟩
  have hib : 0 ≤ i ∧ i < 148 := by
    rw [hi, wrap64_id a2 (by omega) (by omega)]
    exact ⟨Int.tmod_nonneg _ (by omega), Int.tmod_lt_of_pos _ (by omega)⟩
  have hjb : 156 ≤ j ∧ j < 512 := by
    have h1 : 0 ≤ Int.tmod (wrap64 a3) 356 ∧ Int.tmod (wrap64 a3) 356 < 356 := by
      rw [wrap64_id a3 (by omega) (by omega)]
      exact ⟨Int.tmod_nonneg _ (by omega), Int.tmod_lt_of_pos _ (by omega)⟩
    obtain ⟨m, hm⟩ : ∃ m, m = Int.tmod (wrap64 a3) 356 := ⟨_, rfl⟩
    rw [← hm] at h1 hj
    rw [hj, wrap64_id _ (by omega) (by omega)]
    omega
  have hyl := sealF_length x
  have hyb := sealF_bytes x hxb
  have c0 : ((sealF x).length : Int) = 512 := by rw [hyl]; rfl
  have c1 : i < ((sealF x).length : Int) := by omega
  have c2 : 0 ≤ j := by omega
  have c3 : j < ((sealF x).length : Int) := by omega
  simp only [← hi, ← hj, if_pos c0, if_pos hib.1, if_pos c1, if_pos c2, if_pos c3]
  obtain ⟨p, rfl⟩ := Int.eq_ofNat_of_zero_le hib.1
  obtain ⟨q, rfl⟩ := Int.eq_ofNat_of_zero_le c2
  clear hi hj
  rw [rd_at _ p (by omega), rd_at _ q (by omega), Int.toNat_natCast, Int.toNat_natCast]
  refine Ev.bind known_eq ?_
  simp only [if_true]
  have hp := hyb ((sealF x)[p]'(by omega)) (List.getElem_mem _)
  have hq := hyb ((sealF x)[q]'(by omega)) (List.getElem_mem _)
  have hr : rightF (((sealF x).set p ((sealF x)[q]'(by omega))).set q ((sealF x)[p]'(by omega))) = true := by
    have h := right_seal x hxb
    have ht := told_seal x hxb
    unfold rightF
    rw [swap_told _ hyl p q (by omega) (by omega), swap_sU _ hyl p q (by omega) (by omega) (by omega), ht, sU_seal]
    rw [show sU 0 (padF x) - (sealF x)[p]'(by omega) + (sealF x)[q]'(by omega) - (sealF x)[q]'(by omega) + (sealF x)[p]'(by omega) = sU 0 (padF x) by omega]
    simp
  have h := Right_eq (((sealF x).set p ((sealF x)[q]'(by omega))).set q ((sealF x)[p]'(by omega))) ((hyb.set _ _ hq).set _ _ hp) (by rw [List.length_set, List.length_set]; omega)
  rw [hr] at h
  exact Ev.bind h (Ev.now _)
end Go.Proofs.YtmhomfhdelocjaaDoor.Pure
