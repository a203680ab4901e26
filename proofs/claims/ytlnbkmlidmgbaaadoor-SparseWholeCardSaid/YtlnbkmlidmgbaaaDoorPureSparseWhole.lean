/- The statement SparseWhole, in lists and numbers. No conditions. -/
import Derived.Test.YtlnbkmlidmgbaaaDoorHPack
import Derived.Test.YtlnbkmlidmgbaaaDoorPx5
namespace Go.Proofs.YtlnbkmlidmgbaaaDoor.Pure
open Go Go.RowKit Go.Proofs.YtlnbkmlidmgbaaaDoor.P Go.Proofs.YtlnbkmlidmgbaaaDoorW.PrintWords Go.Proofs.YtlnbkmlidmgbaaaDoorW.PrintLast Go.Proofs.YtlnbkmlidmgbaaaDoorW.PrintMore
set_option linter.unusedVariables false
set_option linter.unusedSimpArgs false

theorem whole_l0 (v : Int) (m : Nat) (hm : m ≤ 3000) : ∀ (d i : Nat), i + d = m → Ev (fun k => mudlarklaw09_SparseWhole.l0 k v (List.replicate i v ++ List.replicate (m - i) 0) (i : Int)) true := by
  intro d
  induction d with
  | zero =>
    intro i hi
    obtain rfl : i = m := by omega
    obtain ⟨b, hb⟩ : ∃ b, b = List.replicate i v := ⟨_, rfl⟩
    have hbl : b.length = i := by rw [hb, List.length_replicate]
    rw [Nat.sub_self, List.replicate_zero, List.append_nil, ← hb]
    by_cases c0 : v = 0
    · have hp : packM b = ([], []) := by rw [hb, c0]; exact packM_zero i
      refine Ev.step (f := fun k => (sparse_Pack.f k b).bind fun bt => mudlarklaw09_SparseWhole.j1 k b bt.1 bt.2 true) (fun k => ?_) ?_
      · simp only [mudlarklaw09_SparseWhole.l0]
        rw [if_neg (by omega)]
        simp only [if_pos c0]
      · refine Ev.bind (g := fun k => sparse_Pack.f k b) (Pack_ev b (by omega)) ?_
        rw [hp]
        refine Ev.step (f := fun _ => some true) (fun k => ?_) (Ev.now true)
        simp only [mudlarklaw09_SparseWhole.j1]
        rw [if_pos trivial]
        simp only [known_all, Option.bind_some]
        rfl
    · refine Ev.step (f := fun k => (sparse_Pack.f k b).bind fun bt => mudlarklaw09_SparseWhole.j1 k b bt.1 bt.2 ((b.length : Int) == 0)) (fun k => ?_) ?_
      · simp only [mudlarklaw09_SparseWhole.l0]
        rw [if_neg (by omega)]
        simp only [if_neg c0]
      · refine Ev.bind (g := fun k => sparse_Pack.f k b) (Pack_ev b (by omega)) ?_
        by_cases c1 : i = 0
        · have hb0 : b = [] := List.eq_nil_of_length_eq_zero (by omega)
          have hp : packM b = ([], []) := by rw [hb0]; exact packM_zero 0
          rw [hp, show ((b.length : Int) == 0) = true by rw [hbl, c1]; rfl]
          refine Ev.step (f := fun _ => some true) (fun k => ?_) (Ev.now true)
          simp only [mudlarklaw09_SparseWhole.j1]
          rw [if_pos trivial]
          simp only [known_all, Option.bind_some]
          rfl
        · have hp : packM b = ([⟨0, (b.length : Int)⟩], b) := packM_full b (fun x hx => by rw [hb] at hx; rw [List.eq_of_mem_replicate hx]; exact c0) (by omega)
          rw [hp, show ((b.length : Int) == 0) = false from beq_eq_false_iff_ne.2 (by omega)]
          refine Ev.step (f := fun _ => some true) (fun k => ?_) (Ev.now true)
          simp only [mudlarklaw09_SparseWhole.j1]
          rw [if_neg (by simp)]
          simp only [known_all, Option.bind_some]
          have h1 : (((rd_T40 [(⟨0, (b.length : Int)⟩ : S40)] 0).f0) == 0 && (((rd_T40 [(⟨0, (b.length : Int)⟩ : S40)] 0).f1) == (b.length : Int))) = true := by simp [rd_T40]
          rw [if_pos (by first | trivial | rfl), if_pos (by simp), if_pos (by simp), if_pos h1]
          simp
  | succ d ih =>
    intro i hi
    have hs : (List.replicate i v ++ List.replicate (m - i) 0).set i v = List.replicate (i + 1) v ++ List.replicate (m - (i + 1)) 0 := by
      rw [List.set_append_right _ _ (by rw [List.length_replicate]; omega), List.length_replicate, Nat.sub_self]
      obtain ⟨q, hq⟩ : ∃ q, m - i = q + 1 := ⟨m - i - 1, by omega⟩
      rw [hq, List.replicate_succ, List.set_cons_zero, List.replicate_succ', List.append_assoc, show m - (i + 1) = q by omega]
      rfl
    refine Ev.step (f := fun k => mudlarklaw09_SparseWhole.l0 k v (List.replicate (i + 1) v ++ List.replicate (m - (i + 1)) 0) ((i + 1 : Nat) : Int)) (fun k => ?_) (ih (i + 1) (by omega))
    simp only [mudlarklaw09_SparseWhole.l0]
    rw [if_pos (by rw [List.length_append, List.length_replicate, List.length_replicate]; omega), if_pos (by omega), Int.toNat_natCast, hs, next_i i (by omega)]
theorem SparseWhole : mudlarklaw09_SparseWhole.Pure := by
  intro a0 a1 h0 h1
  have hw := wf_u16 h0
  have t0 := Int.tmod_nonneg 3000 hw.1
  have t1 := Int.tmod_lt_of_pos a0 (show (0 : Int) < 3000 by omega)
  obtain ⟨m, hm⟩ : ∃ m : Nat, wrap64 (Int.tmod a0 3000) = (m : Int) := ⟨(Int.tmod a0 3000).toNat, by rw [wrap64_id _ (by omega) (by omega)]; omega⟩
  have hm2 : m ≤ 3000 := by rw [wrap64_id _ (by omega) (by omega)] at hm; omega
  refine Ev.rounds (g := fun k => mudlarklaw09_SparseWhole.f k a0 a1) ?_
  unfold mudlarklaw09_SparseWhole.f
  rw [hm]
  refine Ev.congr (f := fun k => mudlarklaw09_SparseWhole.l0 k a1 (List.replicate 0 a1 ++ List.replicate (m - 0) 0) ((0 : Nat) : Int)) (fun k => ?_) (whole_l0 a1 m hm2 m 0 (by omega))
  rw [if_pos (by omega), Int.toNat_natCast, if_pos (by omega), Nat.sub_zero, List.replicate_zero, List.nil_append]
  rfl
end Go.Proofs.YtlnbkmlidmgbaaaDoor.Pure
