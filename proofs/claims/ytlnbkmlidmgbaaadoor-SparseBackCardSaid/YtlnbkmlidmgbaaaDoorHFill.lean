/- What expanded parts are like: in lists and numbers. No conditions. -/
import Derived.Test.YtlnbkmlidmgbaaaDoorHSp
namespace Go.Proofs.YtlnbkmlidmgbaaaDoor.P
open Go Go.RowKit Go.Proofs.YtlnbkmlidmgbaaaDoorW.PrintWords Go.Proofs.YtlnbkmlidmgbaaaDoorW.PrintLast Go.Proofs.YtlnbkmlidmgbaaaDoorW.PrintMore
set_option linter.unusedVariables false
set_option linter.unusedSimpArgs false

theorem okF_mono : ∀ (l : List S40) (e r r' : Int), r ≤ r' → okF l e r = true → okF l e r' = true
  | [], _, _, _, _, _ => rfl
  | p :: l, e, r, r', h, hk => by
    simp only [okF, Bool.and_eq_true, decide_eq_true_eq] at hk ⊢
    exact ⟨⟨hk.1.1, hk.1.2.1, by omega, by omega⟩, okF_mono l _ r r' h hk.2⟩
theorem sumF_nonneg : ∀ (l : List S40) (e r : Int), okF l e r = true → 0 ≤ sumF l
  | [], _, _, _ => by simp [sumF]
  | p :: l, e, r, h => by
    simp only [okF, Bool.and_eq_true, decide_eq_true_eq] at h
    have := sumF_nonneg l _ r h.2
    simp only [sumF]
    omega
/-- Without its noughts. -/
def nz (l : List Int) : List Int := l.filter (fun x => decide (x ≠ 0))
theorem nz_app (a b : List Int) : nz (a ++ b) = nz a ++ nz b := List.filter_append ..
theorem nz_zero (n : Nat) : nz (List.replicate n 0) = [] := by
  unfold nz
  rw [List.filter_replicate]
  simp
theorem nz_id (d : List Int) (h : ∀ x ∈ d, x ≠ 0) : nz d = d := by
  unfold nz
  rw [List.filter_eq_self]
  intro x hx
  simpa using h x hx
/-- Parts laid over noughts: the bytes ahead stay, those of the parts follow in order. -/
theorem expandL_nz (real : Int) : ∀ (l : List S40) (e : Nat) (pre d : List Int), okF l (e : Int) real = true → (e : Int) ≤ real → pre.length = e → sumF l = d.length → (∀ x ∈ d, x ≠ 0) →
    ∃ out, expandL l (pre ++ List.replicate (real.toNat - e) 0) d = some out ∧ out.length = real.toNat ∧ nz out = nz pre ++ d
  | [], e, pre, d, _, h1, h2, h3, h4 => by
    have hd : d = [] := List.eq_nil_of_length_eq_zero (by simp only [sumF] at h3; omega)
    subst hd
    refine ⟨_, rfl, by rw [List.length_append, List.length_replicate]; omega, ?_⟩
    rw [nz_app, nz_zero]
  | p :: l, e, pre, d, h, h1, h2, h3, h4 => by
    simp only [okF, Bool.and_eq_true, decide_eq_true_eq] at h
    obtain ⟨⟨a1, a2, a3, a4⟩, h5⟩ := h
    have hs := sumF_nonneg l _ real h5
    simp only [sumF] at h3
    obtain ⟨m0, hm0⟩ : ∃ m : Nat, p.f0 = (m : Int) := ⟨p.f0.toNat, by omega⟩
    obtain ⟨m1, hm1⟩ : ∃ m : Nat, p.f1 = (m : Int) := ⟨p.f1.toNat, by omega⟩
    rw [hm0, hm1] at h5
    simp only [expandL]
    rw [if_pos ⟨by omega, a2, by omega, by rw [List.length_append, List.length_replicate]; omega⟩, hm0, hm1, Int.toNat_natCast, Int.toNat_natCast]
    have hsp : splice (pre ++ List.replicate (real.toNat - e) 0) m0 (d.take m1) = (pre ++ (List.replicate (m0 - e) 0 ++ d.take m1)) ++ List.replicate (real.toNat - (m0 + m1)) 0 := by
      have hdl : (d.take m1).length = m1 := by rw [List.length_take]; omega
      unfold splice
      rw [hdl, List.take_append, List.drop_append, List.take_of_length_le (by omega), List.drop_eq_nil_of_le (by omega), List.take_replicate, List.drop_replicate, List.nil_append, h2]
      rw [show min (m0 - e) (real.toNat - e) = m0 - e by omega, show real.toNat - e - (m0 + m1 - e) = real.toNat - (m0 + m1) by omega]
      simp only [List.append_assoc]
    rw [hsp]
    have hdl : (d.take m1).length = m1 := by rw [List.length_take]; omega
    obtain ⟨out, o1, o2, o3⟩ := expandL_nz real l (m0 + m1) (pre ++ (List.replicate (m0 - e) 0 ++ d.take m1)) (d.drop m1) (by push_cast; exact h5) (by omega) (by rw [List.length_append, List.length_append, List.length_replicate, hdl]; omega) (by rw [List.length_drop]; omega) (fun x hx => h4 x (List.mem_of_mem_drop hx))
    refine ⟨out, o1, o2, ?_⟩
    rw [o3, nz_app, nz_app, nz_zero, List.nil_append, nz_id _ (fun x hx => h4 x (List.mem_of_mem_take hx)), List.append_assoc, List.take_append_drop]
theorem expand_f (l : List S40) (real : Int) (d : List Int) (hd : d.length ≤ 140737488355328) (r : List Int) (h0 : checkM l d.length real = 0) (h1 : real ≤ 1048576) (h2 : expandL l (List.replicate real.toNat 0) d = some r) :
    sparse_Expand.f l real d = some (r, 0) := by
  have hc := Check_at l d.length real (by omega) (by omega) (l.length + 2) (by omega)
  obtain ⟨_, c2, _, _, _⟩ := checkM_zero.1 h0
  unfold sparse_Expand.f
  rw [hc, h0, Option.bind_some, if_pos rfl, if_neg (by omega), if_pos c2, h2]
  rfl
end Go.Proofs.YtlnbkmlidmgbaaaDoor.P
