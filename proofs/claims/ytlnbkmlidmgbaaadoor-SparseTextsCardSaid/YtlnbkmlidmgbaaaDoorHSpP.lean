/- Parts of choices; which are the same. No conditions. -/
import Derived.Test.YtlnbkmlidmgbaaaDoorHNumP
import Derived.Test.YtlnbkmlidmgbaaaDoorPx3
import Derived.Test.YtlnbkmlidmgbaaaDoorPx5
import Derived.Test.YtlnbkmlidmgbaaaDoorHSKnown
import Derived.Test.YtlnbkmlidmgbaaaDoorHTabEL
namespace Go.Proofs.YtlnbkmlidmgbaaaDoor.P
open Go.RowKit Go.Shelf Go.Lib Go.Proofs.YtlnbkmlidmgbaaaDoorW.PrintWords Go.Proofs.YtlnbkmlidmgbaaaDoorW.PrintLast Go.Proofs.YtlnbkmlidmgbaaaDoorW.PrintMore
set_option linter.unusedVariables false
set_option linter.unusedSimpArgs false

def sumF : List S40 → Int
  | [] => 0
  | p :: l => p.f1 + sumF l
theorem sumF_app : ∀ a b : List S40, sumF (a ++ b) = sumF a + sumF b
  | [], b => by simp [sumF]
  | p :: a, b => by simp only [List.cons_append, sumF, sumF_app a b]; omega
structure PartsOk (l : List S40) (n e : Int) : Prop where
  len : l.length ≤ 8
  sum : n = sumF l
  n0 : 0 ≤ n
  n1 : n ≤ 240
  e0 : -400 ≤ e
  e1 : e ≤ 560
  each : ∀ p ∈ l, 1 ≤ p.f1 ∧ p.f1 ≤ 30 ∧ -400 ≤ p.f0 ∧ p.f0 ≤ 560
theorem same_l0 (l : List S40) (hl : l.length ≤ 9223372036854775806) : ∀ (d i : Nat), i + d = l.length → Ev (fun k => mudlarkref09_Same.l0 k l l (i : Int)) true := by
  intro d
  induction d with
  | zero =>
    intro i hi
    exact Ev.step (f := fun _ => some true) (fun k => by simp only [mudlarkref09_Same.l0]; rw [if_neg (by omega)]) (Ev.now true)
  | succ d ih =>
    intro i hi
    refine Ev.step (f := fun k => mudlarkref09_Same.l0 k l l ((i + 1 : Nat) : Int)) (fun k => ?_) (ih (i + 1) (by omega))
    simp only [mudlarkref09_Same.l0]
    rw [if_pos (by omega), if_pos (by omega), if_pos (by omega), if_neg (by simp), next_i i (by omega)]
theorem Same_ev (l : List S40) (hl : l.length ≤ 9223372036854775806) : Ev (fun k => mudlarkref09_Same.f k l l) true := by
  unfold mudlarkref09_Same.f
  refine Ev.congr (f := fun k => mudlarkref09_Same.l0 k l l ((0 : Nat) : Int)) (fun k => by rw [if_pos rfl]; rfl) ?_
  exact same_l0 l hl l.length 0 (by omega)
/-! ### Parts of choices -/
theorem rdb {c : List Int} (hc : ∀ x ∈ c, (Lit.int .u8 x).wf = true) (i : Nat) (h : i < c.length) : 0 ≤ rd c (i : Int) ∧ rd c (i : Int) < 256 := by
  have h2 := hc (c[i]) (List.getElem_mem h)
  have h3 : rd c (i : Int) = c[i] := by unfold rd; simp [List.getD, h]
  rw [h3]
  exact wf_u8 h2
theorem parts_l0 (c : List Int) (hcl : c.length ≤ 140737488351232) (hc : ∀ x ∈ c, (Lit.int .u8 x).wf = true) : ∀ (d j : Nat) (out : List S40) (at_ n : Int), j + d = 8 → out.length = j → n = sumF out → 0 ≤ n → n ≤ 30 * j → -50 * (j : Int) ≤ at_ → at_ ≤ 70 * j →
    (∀ p ∈ out, 1 ≤ p.f1 ∧ p.f1 ≤ 30 ∧ -400 ≤ p.f0 ∧ p.f0 ≤ 560) → ∃ l n' e, Ev (fun k => mudlarklaw09_Parts.l0 k c out at_ n ((2 * j : Nat) : Int)) (l, n', e) ∧ PartsOk l n' e := by
  intro d
  induction d with
  | zero =>
    intro j out at_ n hj h0 h1 h2 h3 h4 h5 h6
    obtain rfl : j = 8 := by omega
    refine ⟨out, n, at_, ?_, ⟨by omega, h1, h2, by omega, by omega, by omega, h6⟩⟩
    have hw : wrap64 (((2 * 8 : Nat) : Int) + 1) = 17 := by rw [wrap64_id _ (by omega) (by omega)]; omega
    refine Ev.step (f := fun k => mudlarklaw09_Parts.j1 k c out at_ n ((2 * 8 : Nat) : Int) false) (fun k => ?_) ?_
    · simp only [mudlarklaw09_Parts.l0]
      rw [hw]
      split <;> rfl
    · exact Ev.step (f := fun _ => some (out, n, at_)) (fun k => by simp only [mudlarklaw09_Parts.j1]; rw [if_neg (by simp)]) (Ev.now _)
  | succ d ih =>
    intro j out at_ n hj h0 h1 h2 h3 h4 h5 h6
    have w1 : wrap64 (((2 * j : Nat) : Int) + 1) = ((2 * j + 1 : Nat) : Int) := by rw [wrap64_id _ (by omega) (by omega)]; push_cast; rfl
    have w2 : wrap64 (((2 * j : Nat) : Int) + 2) = ((2 * (j + 1) : Nat) : Int) := by rw [wrap64_id _ (by omega) (by omega)]; push_cast; omega
    by_cases c1 : 2 * j + 1 < c.length
    · obtain ⟨b0, b1⟩ := rdb hc (2 * j) (by omega)
      obtain ⟨b2, b3⟩ := rdb hc (2 * j + 1) c1
      obtain ⟨x, hx⟩ : ∃ x, x = Int.tmod (rd c ((2 * j : Nat) : Int)) 40 := ⟨_, rfl⟩
      obtain ⟨y, hy⟩ : ∃ y, y = Int.tmod (rd c ((2 * j + 1 : Nat) : Int)) 30 := ⟨_, rfl⟩
      have x0 : 0 ≤ x := by rw [hx]; exact Int.tmod_nonneg _ b0
      have x1 : x < 40 := by rw [hx]; exact Int.tmod_lt_of_pos _ (by omega)
      have y0 : 0 ≤ y := by rw [hy]; exact Int.tmod_nonneg _ b2
      have y1 : y < 30 := by rw [hy]; exact Int.tmod_lt_of_pos _ (by omega)
      have hq : ∀ z : Int, -50 ≤ z → z ≤ 0 → ∃ l n' e, Ev (fun k => mudlarklaw09_Parts.l0 k c (out ++ [⟨at_ + x + z, 1 + y⟩]) (at_ + x + z + (1 + y)) (n + (1 + y)) ((2 * (j + 1) : Nat) : Int)) (l, n', e) ∧ PartsOk l n' e := by
        intro z z0 z1
        refine ih (j + 1) _ _ _ (by omega) (by simp [h0]) (by rw [sumF_app, h1]; simp [sumF]) (by omega) (by push_cast; omega) (by push_cast; omega) (by push_cast; omega) ?_
        intro p hp
        rcases List.mem_append.1 hp with h | h
        · exact h6 p h
        · rw [List.mem_singleton] at h
          subst h
          refine ⟨?_, ?_, ?_, ?_⟩ <;> simp only <;> omega
      by_cases c2 : rd c ((2 * j : Nat) : Int) > 250
      · obtain ⟨l, n', e, hev, hok⟩ := hq (-50) (by omega) (by omega)
        refine ⟨l, n', e, ?_, hok⟩
        refine Ev.step (f := fun k => mudlarklaw09_Parts.j1 k c out at_ n ((2 * j : Nat) : Int) true) (fun k => ?_) ?_
        · simp only [mudlarklaw09_Parts.l0]
          rw [w1, if_pos (by omega), decide_eq_true (by omega)]
        · refine Ev.step (f := fun k => mudlarklaw09_Parts.l0 k c (out ++ [⟨at_ + x + -50, 1 + y⟩]) (at_ + x + -50 + (1 + y)) (n + (1 + y)) ((2 * (j + 1) : Nat) : Int)) (fun k => ?_) hev
          simp only [mudlarklaw09_Parts.j1]
          rw [if_pos trivial, if_pos (by omega), if_pos (by omega), w1, if_pos (by omega), if_pos (by omega), if_pos c2, if_pos (by omega), ← hx, ← hy, w2]
          rw [wrap64_id x (by omega) (by omega), wrap64_id y (by omega) (by omega), wrap64_id (at_ + x) (by omega) (by omega), wrap64_id (1 + y) (by omega) (by omega), wrap64_id (at_ + x - 50) (by omega) (by omega), wrap64_id (n + (1 + y)) (by omega) (by omega), wrap64_id (at_ + x - 50 + (1 + y)) (by omega) (by omega)]
          rfl
      · obtain ⟨l, n', e, hev, hok⟩ := hq 0 (by omega) (by omega)
        refine ⟨l, n', e, ?_, hok⟩
        refine Ev.step (f := fun k => mudlarklaw09_Parts.j1 k c out at_ n ((2 * j : Nat) : Int) true) (fun k => ?_) ?_
        · simp only [mudlarklaw09_Parts.l0]
          rw [w1, if_pos (by omega), decide_eq_true (by omega)]
        · refine Ev.step (f := fun k => mudlarklaw09_Parts.l0 k c (out ++ [⟨at_ + x + 0, 1 + y⟩]) (at_ + x + 0 + (1 + y)) (n + (1 + y)) ((2 * (j + 1) : Nat) : Int)) (fun k => ?_) hev
          simp only [mudlarklaw09_Parts.j1]
          rw [if_pos trivial, if_pos (by omega), if_pos (by omega), w1, if_pos (by omega), if_pos (by omega), if_neg c2, if_pos (by omega), ← hx, ← hy, w2, Int.add_zero]
          rw [wrap64_id x (by omega) (by omega), wrap64_id y (by omega) (by omega), wrap64_id (at_ + x) (by omega) (by omega), wrap64_id (1 + y) (by omega) (by omega), wrap64_id (n + (1 + y)) (by omega) (by omega), wrap64_id (at_ + x + (1 + y)) (by omega) (by omega)]
    · refine ⟨out, n, at_, ?_, ⟨by omega, h1, h2, by omega, by omega, by omega, h6⟩⟩
      refine Ev.step (f := fun k => mudlarklaw09_Parts.j1 k c out at_ n ((2 * j : Nat) : Int) false) (fun k => ?_) ?_
      · simp only [mudlarklaw09_Parts.l0]
        rw [w1, if_neg (by omega)]
      · exact Ev.step (f := fun _ => some (out, n, at_)) (fun k => by simp only [mudlarklaw09_Parts.j1]; rw [if_neg (by simp)]) (Ev.now _)
theorem Parts_ev (c : List Int) (hcl : c.length * 1 ≤ 140737488351232) (hc : ∀ x ∈ c, (Lit.int .u8 x).wf = true) : ∃ l n e, Ev (fun k => mudlarklaw09_Parts.f k c) (l, n, e) ∧ PartsOk l n e :=
  parts_l0 c (by omega) hc 8 0 [] 0 0 (by omega) rfl rfl (by omega) (by omega) (by omega) (by omega) (fun p hp => by cases hp)
/-! ### The chapter's examples -/
theorem known_all : mudlarklaw09_known.f = some true := by rfl
end Go.Proofs.YtlnbkmlidmgbaaaDoor.P
