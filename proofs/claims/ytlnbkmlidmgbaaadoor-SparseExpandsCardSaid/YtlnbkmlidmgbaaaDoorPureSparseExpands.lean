/- The statement SparseExpands, in lists and numbers. No conditions. -/
import Derived.Test.YtlnbkmlidmgbaaaDoorHExp9
import Derived.Test.YtlnbkmlidmgbaaaDoorHExpandsW
namespace Go.Proofs.YtlnbkmlidmgbaaaDoor.Pure
open Go Go.RowKit Go.Proofs.YtlnbkmlidmgbaaaDoor.P Go.Proofs.YtlnbkmlidmgbaaaDoorW.PrintWords Go.Proofs.YtlnbkmlidmgbaaaDoorW.PrintLast Go.Proofs.YtlnbkmlidmgbaaaDoorW.PrintMore
set_option linter.unusedVariables false
set_option linter.unusedSimpArgs false

theorem expands_l0 (l0 : List S40) (a1 : Int) (l2 l4 : List Int) (a5 a6 : Int) (m : List S40) (e : Int) (h2 : l2.length ≤ 2000) (h4 : l4.length * 1 ≤ 140737488351232) (hb4 : ∀ x ∈ l4, (Lit.int .u8 x).wf = true) (h5 : (Lit.int .u16 a5).wf = true) :
    ∀ (d i : Nat) (x : List Int), i + d = x.length → x.length ≤ 100000 → Ev (fun k => mudlarklaw09_SparseExpands.l0 k l0 a1 l2 l4 a5 a6 m e x (i : Int)) true := by
  intro d
  induction d with
  | zero =>
    intro i x hi hx
    obtain ⟨r1, e1, p1, q1, s1⟩ := expand_both l0 a1 l2 (by omega)
    obtain ⟨r2, e2, p2, q2, s2⟩ := expand_both m (wrap64 (e + wrap64 (Int.tmod a6 7))) x (by omega)
    obtain ⟨b, hb, hbl⟩ := Holes_ev l4 a5 hb4 h4 h5
    refine Ev.step (f := fun k => (mudlarkref09_Expand.f k l0 a1 l2).bind fun bt243 => (mudlarkref09_Expand.f k m (wrap64 (e + wrap64 (Int.tmod a6 7))) x).bind fun bt251 => (if (strOfNums r1).toList = (strOfNums bt243.1).toList then (if e1 = bt243.2 then (if (strOfNums r2).toList = (strOfNums bt251.1).toList then (if e2 = bt251.2 then ((mudlarklaw09_packs.f k l2).bind fun t255 => (if t255 = true then ((mudlarklaw09_Holes.f k l4 a5).bind fun t256 => ((mudlarklaw09_packs.f k t256).bind fun t259 => (some t259))) else (some false))) else (some false)) else (some false)) else (some false)) else (some false))) (fun k => ?_) ?_
    · simp only [mudlarklaw09_SparseExpands.l0]
      rw [if_neg (by omega), p1, p2]
      simp only [Option.bind_some]
      rw [s1, s2]
    · refine Ev.bind q1 ?_
      refine Ev.bind q2 ?_
      simp only [if_true]
      refine Ev.bind (g := fun k => mudlarklaw09_packs.f k l2) (packs_ev l2 (by omega)) ?_
      simp only [if_true]
      refine Ev.bind (g := fun k => mudlarklaw09_Holes.f k l4 a5) hb ?_
      exact Ev.bind (g := fun k => mudlarklaw09_packs.f k b) (packs_ev b (by omega)) (Ev.now true)
  | succ d ih =>
    intro i x hi hx
    refine Ev.step (f := fun k => mudlarklaw09_SparseExpands.l0 k l0 a1 l2 l4 a5 a6 m e (x.set i ((wrap64 ((i : Int) + 1)) % 256)) ((i + 1 : Nat) : Int)) (fun k => ?_) (ih (i + 1) _ (by rw [List.length_set]; omega) (by rw [List.length_set]; exact hx))
    simp only [mudlarklaw09_SparseExpands.l0]
    rw [if_pos (by omega), if_pos (by omega), Int.toNat_natCast, next_i i (by omega)]
theorem SparseExpands : mudlarklaw09_SparseExpands.Pure := by
  intro l0 a1 l2 l3 l4 a5 a6 w1 m2 y2 b2 m3 y3 b3 m4 y4 b4 w5 w6
  refine Ev.rounds (g := fun k => mudlarklaw09_SparseExpands.f k l0 a1 l2 l3 l4 a5 a6) ?_
  unfold mudlarklaw09_SparseExpands.f
  have hj : Ev (fun k => mudlarklaw09_SparseExpands.j0 k l0 a1 l2 l3 l4 a5 a6 true) true := by
    refine Ev.step (f := fun _ => some true) (fun k => ?_) (Ev.now true)
    simp only [mudlarklaw09_SparseExpands.j0, if_true, known_all, Option.bind_some]
  by_cases c1 : (l0.length : Int) > 50
  · simp only [if_pos c1]
    exact hj
  by_cases c2 : (l2.length : Int) > 2000
  · simp only [if_neg c1, if_pos c2]
    exact hj
  simp only [if_neg c1, if_neg c2, known_all, Option.bind_some, Bool.not_true]
  obtain ⟨m, n, e, hP, hok⟩ := Parts_ev l3 y3 b3
  have h0 := hok.n0
  have h1 := hok.n1
  have ha := wf_u8 w6
  have t0 := Int.tmod_nonneg 3 ha.1
  have t1 := Int.tmod_lt_of_pos a6 (show (0 : Int) < 3 by omega)
  obtain ⟨N, hN⟩ : ∃ N, N = mx (wrap64 ((wrap64 (n + (wrap64 (Int.tmod a6 3)))) - 1)) 0 := ⟨_, rfl⟩
  have hN0 : 0 ≤ N ∧ N ≤ 1000 := by
    rw [hN, wrap64_id (Int.tmod a6 3) (by omega) (by omega), wrap64_id (n + Int.tmod a6 3) (by omega) (by omega), wrap64_id _ (by omega) (by omega)]
    unfold mx
    split <;> omega
  refine Ev.step (f := fun k => (mudlarklaw09_Parts.f k l3).bind fun bt230 => (if 0 ≤ (mx (wrap64 ((wrap64 (bt230.2.1 + (wrap64 (Int.tmod a6 3)))) - 1)) 0) then (if (mx (wrap64 ((wrap64 (bt230.2.1 + (wrap64 (Int.tmod a6 3)))) - 1)) 0 : Int).toNat ≤ 281474976710656 then (mudlarklaw09_SparseExpands.l0 k l0 a1 l2 l4 a5 a6 bt230.1 bt230.2.2 (List.replicate (mx (wrap64 ((wrap64 (bt230.2.1 + (wrap64 (Int.tmod a6 3)))) - 1)) 0 : Int).toNat 0) 0) else (none)) else (none))) (fun k => ?_) ?_
  · simp only [mudlarklaw09_SparseExpands.j0]
    rw [if_neg (by simp)]
  · refine Ev.bind (g := fun k => mudlarklaw09_Parts.f k l3) hP ?_
    simp only
    rw [← hN]
    simp only [if_pos hN0.1, if_pos (show N.toNat ≤ 281474976710656 by omega)]
    exact expands_l0 l0 a1 l2 l4 a5 a6 m e (by omega) y4 b4 w5 N.toNat 0 (List.replicate N.toNat 0) (by rw [List.length_replicate]; omega) (by rw [List.length_replicate]; omega)
end Go.Proofs.YtlnbkmlidmgbaaaDoor.Pure
