/- The statement SparseFill, in lists and numbers. No conditions. -/
import Derived.Test.YtlnbkmlidmgbaaaDoorHFill
import Derived.Test.YtlnbkmlidmgbaaaDoorPx4
namespace Go.Proofs.YtlnbkmlidmgbaaaDoor.Pure
open Go Go.RowKit Go.Proofs.YtlnbkmlidmgbaaaDoor.P Go.Proofs.YtlnbkmlidmgbaaaDoorW.PrintWords Go.Proofs.YtlnbkmlidmgbaaaDoorW.PrintLast Go.Proofs.YtlnbkmlidmgbaaaDoorW.PrintMore
set_option linter.unusedVariables false
set_option linter.unusedSimpArgs false

theorem fill_l1 (a1 e : Int) (d b : List Int) (hb : (b.length : Int) = wrap64 (e + wrap64 (Int.tmod a1 9))) (hbl : b.length ≤ 1048576) : ∀ (dd i : Nat) (back : List Int), i + dd = b.length → back.length ≤ i → back ++ nz (b.drop i) = d →
    Ev (fun k => mudlarklaw09_SparseFill.l1 k a1 e d b 0 back (i : Int)) true := by
  intro dd
  induction dd with
  | zero =>
    intro i back hi h1 h2
    obtain rfl : i = b.length := by omega
    rw [List.drop_eq_nil_of_le (Nat.le_refl _)] at h2
    obtain rfl : back = d := by rw [← h2]; simp [nz]
    refine Ev.step (f := fun _ => some true) (fun k => ?_) (Ev.now true)
    simp only [mudlarklaw09_SparseFill.l1]
    rw [if_neg (by omega)]
    simp only [known_all, Option.bind_some, if_true]
    rw [if_pos hb]
    simp
  | succ dd ih =>
    intro i back hi h1 h2
    have hil : i < b.length := by omega
    have hr : rd b (i : Int) = b[i] := by unfold rd; simp [List.getD, hil]
    rw [List.drop_eq_getElem_cons hil] at h2
    by_cases c : b[i] = 0
    · refine Ev.step (f := fun k => mudlarklaw09_SparseFill.l1 k a1 e d b 0 back ((i + 1 : Nat) : Int)) (fun k => ?_) (ih (i + 1) back (by omega) (by omega) ?_)
      · simp only [mudlarklaw09_SparseFill.l1]
        rw [if_pos (by omega), if_pos (by omega), hr, if_pos c, next_i i (by omega)]
      · rw [← h2]
        unfold nz
        rw [List.filter_cons_of_neg (by simp [c])]
    · refine Ev.step (f := fun k => mudlarklaw09_SparseFill.l1 k a1 e d b 0 (back ++ [b[i]]) ((i + 1 : Nat) : Int)) (fun k => ?_) (ih (i + 1) (back ++ [b[i]]) (by omega) (by simp; omega) ?_)
      · simp only [mudlarklaw09_SparseFill.l1]
        rw [if_pos (by omega), if_pos (by omega), hr, if_neg c, if_pos (by omega), next_i i (by omega)]
      · rw [← h2]
        unfold nz
        rw [List.filter_cons_of_pos (by simp [c]), List.append_assoc]
        rfl
theorem fill_l0 (a1 : Int) (ha : 0 ≤ a1 ∧ a1 < 256) (l : List S40) (n : Nat) (e : Int) (hn : n ≤ 240) (hsum : sumF l = n) (hok : okF l 0 e = true) (hl : l.length ≤ 8) (he0 : 0 ≤ e) (he : e ≤ 560) : ∀ (dd i : Nat) (d : List Int), i + dd = n → d.length = i → (∀ x ∈ d, x ≠ 0) →
    Ev (fun k => mudlarklaw09_SparseFill.l0 k a1 l (n : Int) e d (i : Int)) true := by
  intro dd
  induction dd with
  | zero =>
    intro i d hi h1 h2
    obtain rfl : i = n := by omega
    have t0 := Int.tmod_nonneg 9 ha.1
    have t1 := Int.tmod_lt_of_pos a1 (show (0 : Int) < 9 by omega)
    obtain ⟨real, hreal⟩ : ∃ r, r = wrap64 (e + wrap64 (Int.tmod a1 9)) := ⟨_, rfl⟩
    have hr2 : real = e + Int.tmod a1 9 := by rw [hreal, wrap64_id (Int.tmod a1 9) (by omega) (by omega), wrap64_id _ (by omega) (by omega)]
    have hokr := okF_mono l 0 e real (by omega) hok
    obtain ⟨out, o1, o2, o3⟩ := expandL_nz real l 0 [] d hokr (by omega) rfl (by rw [hsum, h1]) h2
    rw [List.nil_append, Nat.sub_zero] at o1
    have hx := expand_f l real d (by omega) out (checkM_zero.2 ⟨by omega, by omega, by omega, hokr, by rw [hsum, h1]⟩) (by omega) o1
    have hnz : nz out = d := by rw [o3]; simp [nz]
    refine Ev.step (f := fun k => mudlarklaw09_SparseFill.l1 k a1 e d out 0 [] ((0 : Nat) : Int)) (fun k => ?_) (fill_l1 a1 e d out (by rw [← hreal, o2]; omega) (by omega) out.length 0 [] (by omega) (by simp) (by rw [List.nil_append, List.drop_zero]; exact hnz))
    simp only [mudlarklaw09_SparseFill.l0]
    rw [if_neg (by omega), ← hreal, hx]
    rfl
  | succ dd ih =>
    intro i d hi h1 h2
    have hm : Int.tmod (i : Int) 200 = ((i % 200 : Nat) : Int) := by rw [Int.tmod_eq_emod_of_nonneg (by omega)]; omega
    refine Ev.step (f := fun k => mudlarklaw09_SparseFill.l0 k a1 l (n : Int) e (d ++ [(1 + Int.tmod (i : Int) 200) % 256]) ((i + 1 : Nat) : Int)) (fun k => ?_) (ih (i + 1) _ (by omega) (by simp [h1]) ?_)
    · simp only [mudlarklaw09_SparseFill.l0]
      rw [if_pos (by omega), if_pos (by omega), next_i i (by omega)]
    · intro x hx
      rcases List.mem_append.1 hx with h | h
      · exact h2 x h
      · rw [List.mem_singleton] at h
        rw [h, hm]
        omega
theorem SparseFill : mudlarklaw09_SparseFill.Pure := by
  intro l0 a1 hl hs hb ha
  obtain ⟨l, n, e, hP, hok⟩ := Parts_ev l0 hs hb
  refine Ev.rounds (g := fun k => mudlarklaw09_SparseFill.f k l0 a1) ?_
  unfold mudlarklaw09_SparseFill.f
  refine Ev.bind (g := fun k => mudlarklaw09_Parts.f k l0) hP ?_
  refine Ev.bind (g := fun k => mudlarkref09_Check.f k l n e) (RCheck_ev l n e) ?_
  by_cases c : checkM l n e = 0
  · obtain ⟨c1, c2, c3, c4, c5⟩ := checkM_zero.1 c
    have h0 := hok.n0
    have h1 := hok.n1
    obtain ⟨m, rfl⟩ : ∃ m : Nat, n = (m : Int) := ⟨n.toNat, by omega⟩
    simp only [if_pos c]
    exact fill_l0 a1 (wf_u8 ha) l m e (by omega) c5 c4 hok.len c2 hok.e1 m 0 [] (by omega) rfl (fun x hx => by cases hx)
  · simp only [if_neg c, known_all, Option.bind_some]
    exact Ev.now true
end Go.Proofs.YtlnbkmlidmgbaaaDoor.Pure
