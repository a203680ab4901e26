/- What Check, Front and Same of chapter 9 answer, and what parts of choices are like: in lists and numbers. No conditions. -/
import Derived.Test.YtlnbkmlidmgbaaaDoorPx3
import Derived.Test.YtlnbkmlidmgbaaaDoorHSKnown
import Derived.Test.YtlnbkmlidmgbaaaDoorHTab10L
namespace Go.Proofs.YtlnbkmlidmgbaaaDoor.P
open Go Go.RowKit Go.Proofs.YtlnbkmlidmgbaaaDoorW.PrintWords Go.Proofs.YtlnbkmlidmgbaaaDoorW.PrintLast Go.Proofs.YtlnbkmlidmgbaaaDoorW.PrintMore
set_option linter.unusedVariables false
set_option linter.unusedSimpArgs false

theorem wrap64_id (x : Int) (h0 : -9223372036854775808 ≤ x) (h1 : x ≤ 9223372036854775807) : wrap64 x = x := by
  unfold wrap64; omega
theorem next_i (i : Nat) (h : i < 9223372036854775807) : wrap64 ((i : Int) + 1) = ((i + 1 : Nat) : Int) := by rw [wrap64_id _ (by omega) (by omega)]; push_cast; rfl
/-! ### Parts that may be -/
def okF : List S40 → Int → Int → Bool
  | [], _, _ => true
  | p :: l, e, real => decide (e ≤ p.f0 ∧ 0 ≤ p.f1 ∧ p.f0 ≤ real ∧ p.f1 ≤ real - p.f0) && okF l (p.f0 + p.f1) real
def sumF : List S40 → Int
  | [] => 0
  | p :: l => p.f1 + sumF l
theorem sumF_app : ∀ a b : List S40, sumF (a ++ b) = sumF a + sumF b
  | [], b => by simp [sumF]
  | p :: a, b => by simp only [List.cons_append, sumF, sumF_app a b]; omega
def checkM (l : List S40) (st real : Int) : Int := if 1000 < l.length then 3 else if real < 0 ∨ 1099511627776 < real then 11 else cond (okF l 0 real && (sumF l == st)) 0 11

theorem checkM_zero {l : List S40} {st real : Int} : checkM l st real = 0 ↔ (l.length ≤ 1000 ∧ 0 ≤ real ∧ real ≤ 1099511627776 ∧ okF l 0 real = true ∧ sumF l = st) := by
  unfold checkM
  by_cases c0 : 1000 < l.length
  · rw [if_pos c0]
    exact ⟨fun h => by omega, fun h => by omega⟩
  rw [if_neg c0]
  by_cases c1 : real < 0 ∨ 1099511627776 < real
  · rw [if_pos c1]
    exact ⟨fun h => by omega, fun h => by omega⟩
  rw [if_neg c1]
  cases h1 : okF l 0 real with
  | false => exact ⟨fun h => by simp at h, fun h => by simp at h⟩
  | true =>
    by_cases h2 : sumF l = st
    · rw [beq_iff_eq.2 h2]
      exact ⟨fun _ => ⟨by omega, by omega, by omega, rfl, h2⟩, fun _ => rfl⟩
    · rw [beq_eq_false_iff_ne.2 h2]
      exact ⟨fun h => by simp at h, fun h => (h2 h.2.2.2.2).elim⟩
theorem check_at0 (l : List S40) (real : Int) (hr : real ≤ 1099511627776) (hl : l.length ≤ 1000) : ∀ (d i : Nat) (st e : Int) (k : Nat), d < k → i + d = l.length → 0 ≤ e → e ≤ real → -4611686018427387904 + (d : Int) * 1099511627776 ≤ st → st ≤ 4611686018427387904 →
    sparse_Check.l0 k st real e l (l.length : Int) (i : Int) = some (cond (okF (l.drop i) e real && (sumF (l.drop i) == st)) 0 11) := by
  intro d
  induction d with
  | zero =>
    intro i st e k hk hi h0 h1 h2 h3
    obtain ⟨k, rfl⟩ : ∃ m, k = m + 1 := ⟨k - 1, by omega⟩
    obtain rfl : i = l.length := by omega
    rw [List.drop_eq_nil_of_le (Nat.le_refl _)]
    simp only [sparse_Check.l0, okF, sumF, Bool.true_and]
    rw [if_neg (by omega)]
    by_cases c : st = 0
    · rw [beq_iff_eq.2 c.symm, if_pos c]
      rfl
    · rw [beq_eq_false_iff_ne.2 (fun h => c h.symm), if_neg c]
      rfl
  | succ d ih =>
    intro i st e k hk hi h0 h1 h2 h3
    obtain ⟨k, rfl⟩ : ∃ m, k = m + 1 := ⟨k - 1, by omega⟩
    have hil : i < l.length := by omega
    rw [expandL_drop l i hil]
    obtain ⟨p, hp⟩ : ∃ p, p = rd_T40 l (i : Int) := ⟨_, rfl⟩
    rw [← hp]
    have hstep : sparse_Check.l0 (k + 1) st real e l (l.length : Int) (i : Int) = if p.f0 < e then some 11 else if p.f1 < 0 then some 11 else if p.f0 > real then some 11 else if p.f1 > wrap64 (real - p.f0) then some 11 else sparse_Check.l0 k (wrap64 (st - p.f1)) real (wrap64 (p.f0 + p.f1)) l (l.length : Int) (wrap64 ((i : Int) + 1)) := by
      simp only [sparse_Check.l0]
      rw [if_pos (by omega), if_pos (by omega), if_pos (by omega), ← hp]
    rw [hstep]
    simp only [okF, sumF]
    by_cases c1 : p.f0 < e
    · rw [if_pos c1, show decide (e ≤ p.f0 ∧ 0 ≤ p.f1 ∧ p.f0 ≤ real ∧ p.f1 ≤ real - p.f0) = false from decide_eq_false (by omega), Bool.false_and, Bool.false_and]
      rfl
    by_cases c2 : p.f1 < 0
    · rw [if_neg c1, if_pos c2, show decide (e ≤ p.f0 ∧ 0 ≤ p.f1 ∧ p.f0 ≤ real ∧ p.f1 ≤ real - p.f0) = false from decide_eq_false (by omega), Bool.false_and, Bool.false_and]
      rfl
    by_cases c3 : p.f0 > real
    · rw [if_neg c1, if_neg c2, if_pos c3, show decide (e ≤ p.f0 ∧ 0 ≤ p.f1 ∧ p.f0 ≤ real ∧ p.f1 ≤ real - p.f0) = false from decide_eq_false (by omega), Bool.false_and, Bool.false_and]
      rfl
    have w1 : wrap64 (real - p.f0) = real - p.f0 := wrap64_id _ (by omega) (by omega)
    by_cases c4 : p.f1 > real - p.f0
    · rw [if_neg c1, if_neg c2, if_neg c3, w1, if_pos c4, show decide (e ≤ p.f0 ∧ 0 ≤ p.f1 ∧ p.f0 ≤ real ∧ p.f1 ≤ real - p.f0) = false from decide_eq_false (by omega), Bool.false_and, Bool.false_and]
      rfl
    rw [if_neg c1, if_neg c2, if_neg c3, w1, if_neg c4, wrap64_id (st - p.f1) (by omega) (by omega), wrap64_id (p.f0 + p.f1) (by omega) (by omega), next_i i (by omega)]
    have hd : decide (e ≤ p.f0 ∧ 0 ≤ p.f1 ∧ p.f0 ≤ real ∧ p.f1 ≤ real - p.f0) = true := decide_eq_true ⟨by omega, by omega, by omega, by omega⟩
    rw [hd, Bool.true_and]
    have hq : (p.f1 + sumF (l.drop (i + 1)) == st) = (sumF (l.drop (i + 1)) == st - p.f1) := by
      rw [Bool.eq_iff_iff, beq_iff_eq, beq_iff_eq]
      constructor <;> intro h <;> omega
    rw [hq]
    exact ih (i + 1) (st - p.f1) (p.f0 + p.f1) k (by omega) (by omega) (by omega) (by omega) (by push_cast at h2; omega) (by omega)
theorem Check_at (l : List S40) (st real : Int) (h0 : -1125899906842624 ≤ st) (h1 : st ≤ 1125899906842624) (k : Nat) (hk : l.length < k) : sparse_Check.f k l st real = some (checkM l st real) := by
  unfold sparse_Check.f checkM
  by_cases c0 : 1000 < l.length
  · rw [if_pos c0, if_pos (by omega)]
  rw [if_neg c0, if_neg (by omega)]
  by_cases c1 : real < 0
  · rw [if_pos c1, if_pos (.inl c1)]
  rw [if_neg c1]
  by_cases c2 : 1099511627776 < real
  · rw [if_pos c2, if_pos (.inr c2)]
  rw [if_neg c2, if_neg (by omega)]
  have h := check_at0 l real (by omega) (by omega) l.length 0 st 0 k hk (by omega) (by omega) (by omega) (by omega) (by omega)
  rw [List.drop_zero] at h
  exact h
theorem Check_ev (l : List S40) (st real : Int) (h0 : -1125899906842624 ≤ st) (h1 : st ≤ 1125899906842624) : Ev (fun k => sparse_Check.f k l st real) (checkM l st real) :=
  ⟨l.length + 1, fun k hk => Check_at l st real h0 h1 k (by omega)⟩

theorem rcheck_l0 (l : List S40) (x1 real : Int) (hr : real ≤ 1099511627776) (hl : l.length ≤ 1000) : ∀ (d i : Nat) (n e : Int), i + d = l.length → 0 ≤ e → e ≤ real → 0 ≤ n → n ≤ 4611686018427387904 - (d : Int) * 1099511627776 →
    Ev (fun k => mudlarkref09_Check.l0 k l x1 real e n (i : Int)) (cond (okF (l.drop i) e real && (n + sumF (l.drop i) == x1)) 0 11) := by
  intro d
  induction d with
  | zero =>
    intro i n e hi h0 h1 h2 h3
    obtain rfl : i = l.length := by omega
    rw [List.drop_eq_nil_of_le (Nat.le_refl _)]
    refine Ev.step (f := fun _ => if n = x1 then some 0 else some 11) (fun k => by simp only [mudlarkref09_Check.l0]; rw [if_neg (by omega)]) ?_
    simp only [okF, sumF, Int.add_zero, Bool.true_and]
    by_cases c : n = x1
    · rw [beq_iff_eq.2 c]
      simp only [if_pos c]
      exact Ev.now 0
    · rw [beq_eq_false_iff_ne.2 c]
      simp only [if_neg c]
      exact Ev.now 11
  | succ d ih =>
    intro i n e hi h0 h1 h2 h3
    have hil : i < l.length := by omega
    rw [expandL_drop l i hil]
    obtain ⟨p, hp⟩ : ∃ p, p = rd_T40 l (i : Int) := ⟨_, rfl⟩
    rw [← hp]
    have hstep : ∀ k, mudlarkref09_Check.l0 (k + 1) l x1 real e n (i : Int) = if p.f0 < e then some 11 else if p.f1 < 0 then some 11 else if p.f0 > real then some 11 else if p.f1 > wrap64 (real - p.f0) then some 11 else mudlarkref09_Check.l0 k l x1 real (wrap64 (p.f0 + p.f1)) (wrap64 (n + p.f1)) (wrap64 ((i : Int) + 1)) := by
      intro k
      simp only [mudlarkref09_Check.l0]
      rw [if_pos (by omega), if_pos (by omega), ← hp]
    simp only [okF, sumF]
    by_cases c1 : p.f0 < e
    · refine Ev.step (f := fun _ => some 11) (fun k => by rw [hstep, if_pos c1]) ?_
      rw [show decide (e ≤ p.f0 ∧ 0 ≤ p.f1 ∧ p.f0 ≤ real ∧ p.f1 ≤ real - p.f0) = false from decide_eq_false (by omega), Bool.false_and, Bool.false_and]
      exact Ev.now 11
    by_cases c2 : p.f1 < 0
    · refine Ev.step (f := fun _ => some 11) (fun k => by rw [hstep, if_neg c1, if_pos c2]) ?_
      rw [show decide (e ≤ p.f0 ∧ 0 ≤ p.f1 ∧ p.f0 ≤ real ∧ p.f1 ≤ real - p.f0) = false from decide_eq_false (by omega), Bool.false_and, Bool.false_and]
      exact Ev.now 11
    by_cases c3 : p.f0 > real
    · refine Ev.step (f := fun _ => some 11) (fun k => by rw [hstep, if_neg c1, if_neg c2, if_pos c3]) ?_
      rw [show decide (e ≤ p.f0 ∧ 0 ≤ p.f1 ∧ p.f0 ≤ real ∧ p.f1 ≤ real - p.f0) = false from decide_eq_false (by omega), Bool.false_and, Bool.false_and]
      exact Ev.now 11
    have w1 : wrap64 (real - p.f0) = real - p.f0 := wrap64_id _ (by omega) (by omega)
    by_cases c4 : p.f1 > real - p.f0
    · refine Ev.step (f := fun _ => some 11) (fun k => by rw [hstep, if_neg c1, if_neg c2, if_neg c3, w1, if_pos c4]) ?_
      rw [show decide (e ≤ p.f0 ∧ 0 ≤ p.f1 ∧ p.f0 ≤ real ∧ p.f1 ≤ real - p.f0) = false from decide_eq_false (by omega), Bool.false_and, Bool.false_and]
      exact Ev.now 11
    refine Ev.step (f := fun k => mudlarkref09_Check.l0 k l x1 real (p.f0 + p.f1) (n + p.f1) ((i + 1 : Nat) : Int)) (fun k => by
      rw [hstep, if_neg c1, if_neg c2, if_neg c3, w1, if_neg c4, wrap64_id (n + p.f1) (by omega) (by omega), wrap64_id (p.f0 + p.f1) (by omega) (by omega), next_i i (by omega)]) ?_
    have hd : decide (e ≤ p.f0 ∧ 0 ≤ p.f1 ∧ p.f0 ≤ real ∧ p.f1 ≤ real - p.f0) = true := decide_eq_true ⟨by omega, by omega, by omega, by omega⟩
    rw [hd, Bool.true_and, ← Int.add_assoc]
    exact ih (i + 1) (n + p.f1) (p.f0 + p.f1) (by omega) (by omega) (by omega) (by omega) (by push_cast at h3; omega)
theorem RCheck_ev (l : List S40) (st real : Int) : Ev (fun k => mudlarkref09_Check.f k l st real) (checkM l st real) := by
  unfold mudlarkref09_Check.f checkM
  by_cases c0 : 1000 < l.length
  · rw [if_pos c0]
    refine Ev.congr (f := fun _ => some 3) (fun k => by rw [if_pos (by omega)]) (Ev.now 3)
  rw [if_neg c0]
  by_cases c1 : real < 0
  · rw [if_pos (.inl c1)]
    refine Ev.congr (f := fun k => mudlarkref09_Check.j0 k l st real true) (fun k => by rw [if_neg (by omega), if_pos c1]) ?_
    exact Ev.step (f := fun _ => some 11) (fun k => by simp only [mudlarkref09_Check.j0]; rw [if_pos trivial]) (Ev.now 11)
  by_cases c2 : 1099511627776 < real
  · rw [if_pos (.inr c2)]
    refine Ev.congr (f := fun k => mudlarkref09_Check.j0 k l st real true) (fun k => by rw [if_neg (by omega), if_neg c1, decide_eq_true (show real > 1099511627776 from c2)]) ?_
    exact Ev.step (f := fun _ => some 11) (fun k => by simp only [mudlarkref09_Check.j0]; rw [if_pos trivial]) (Ev.now 11)
  rw [if_neg (by omega)]
  refine Ev.congr (f := fun k => mudlarkref09_Check.j0 k l st real false) (fun k => by rw [if_neg (by omega), if_neg c1, decide_eq_false (show ¬ real > 1099511627776 from c2)]) ?_
  refine Ev.step (f := fun k => mudlarkref09_Check.l0 k l st real 0 0 ((0 : Nat) : Int)) (fun k => by simp only [mudlarkref09_Check.j0]; rw [if_neg (by simp)]; rfl) ?_
  have h := rcheck_l0 l st real (by omega) (by omega) l.length 0 0 0 (by omega) (by omega) (by omega) (by omega) (by omega)
  rw [List.drop_zero] at h
  simpa only [Int.zero_add] using h

/-! ### Front parts -/
def frontM : List S40 → Int → List S40
  | [], _ => []
  | p :: l, n => if n ≤ 0 then [] else ⟨p.f0, mn p.f1 n⟩ :: frontM l (n - mn p.f1 n)
theorem front_l0 (l : List S40) (hl : l.length ≤ 1000000) (hp : ∀ p ∈ l, 0 ≤ p.f1) : ∀ (d i : Nat) (n : Int) (out : List S40), i + d = l.length → out.length ≤ i → n ≤ 9223372036854775807 → -9223372036854775808 ≤ n →
    Ev (fun k => sparse_Front.l0 k n out l (l.length : Int) (i : Int)) (out ++ frontM (l.drop i) n) := by
  intro d
  induction d with
  | zero =>
    intro i n out hi h0 h1 h2
    obtain rfl : i = l.length := by omega
    rw [List.drop_eq_nil_of_le (Nat.le_refl _)]
    simp only [frontM, List.append_nil]
    exact Ev.step (f := fun _ => some out) (fun k => by simp only [sparse_Front.l0]; rw [if_neg (by omega)]) (Ev.now out)
  | succ d ih =>
    intro i n out hi h0 h1 h2
    have hil : i < l.length := by omega
    have hpi : 0 ≤ (rd_T40 l (i : Int)).f1 := by
      apply hp
      unfold rd_T40
      simp [List.getD, hil]
    rw [expandL_drop l i hil]
    obtain ⟨p, hpe⟩ : ∃ p, p = rd_T40 l (i : Int) := ⟨_, rfl⟩
    rw [← hpe] at hpi ⊢
    simp only [frontM]
    by_cases c : n ≤ 0
    · rw [if_pos c, List.append_nil]
      exact Ev.step (f := fun _ => some out) (fun k => by simp only [sparse_Front.l0]; rw [if_pos (by omega), if_pos (by omega), if_pos (by omega), if_pos c]) (Ev.now out)
    · rw [if_neg c]
      have hm : 0 ≤ mn p.f1 n ∧ mn p.f1 n ≤ n := by unfold mn; split <;> omega
      have hx := ih (i + 1) (n - mn p.f1 n) (out ++ [⟨p.f0, mn p.f1 n⟩]) (by omega) (by simp; omega) (by omega) (by omega)
      rw [List.append_assoc] at hx
      refine Ev.step (f := fun k => sparse_Front.l0 k (n - mn p.f1 n) (out ++ [⟨p.f0, mn p.f1 n⟩]) l (l.length : Int) ((i + 1 : Nat) : Int)) (fun k => ?_) hx
      simp only [sparse_Front.l0]
      rw [if_pos (by omega), if_pos (by omega), if_pos (by omega), if_neg c, if_pos (by omega), ← hpe, wrap64_id _ (by omega) (by omega), next_i i (by omega)]
theorem Front_ev (l : List S40) (n : Int) (hl : l.length ≤ 1000000) (hp : ∀ p ∈ l, 0 ≤ p.f1) (h1 : n ≤ 9223372036854775807) (h2 : -9223372036854775808 ≤ n) : Ev (fun k => sparse_Front.f k l n) (frontM l n) := by
  have h := front_l0 l hl hp l.length 0 n [] (by omega) (by simp) h1 h2
  exact h
theorem front_all : ∀ l : List S40, (∀ p ∈ l, 1 ≤ p.f1) → frontM l (sumF l) = l
  | [], _ => rfl
  | p :: l, h => by
    have hp := h p (by simp)
    have h0 : ∀ l : List S40, (∀ p ∈ l, 1 ≤ p.f1) → 0 ≤ sumF l := by
      intro l
      induction l with
      | nil => intro _; simp [sumF]
      | cons q l ih => intro h; have := ih (fun x hx => h x (by simp [hx])); have := h q (by simp); simp only [sumF]; omega
    have hs := h0 l (fun x hx => h x (by simp [hx]))
    have hm : mn p.f1 (sumF (p :: l)) = p.f1 := by simp only [sumF]; unfold mn; split <;> omega
    simp only [frontM]
    rw [if_neg (by simp only [sumF]; omega), hm]
    rw [show sumF (p :: l) - p.f1 = sumF l by simp only [sumF]; omega, front_all l (fun x hx => h x (by simp [hx]))]
theorem front_ok : ∀ (l : List S40) (n e real : Int), okF l e real = true → 0 ≤ n → okF (frontM l n) e real = true
  | [], _, _, _, _, _ => rfl
  | p :: l, n, e, real, h, hn => by
    simp only [okF, Bool.and_eq_true, decide_eq_true_eq] at h
    obtain ⟨⟨a1, a2, a3, a4⟩, h5⟩ := h
    simp only [frontM]
    by_cases c : n ≤ 0
    · rw [if_pos c]; rfl
    · rw [if_neg c]
      have hm : 0 ≤ mn p.f1 n ∧ mn p.f1 n ≤ n ∧ mn p.f1 n ≤ p.f1 := by unfold mn; split <;> omega
      simp only [okF, Bool.and_eq_true, decide_eq_true_eq]
      refine ⟨⟨a1, hm.1, a3, by omega⟩, ?_⟩
      by_cases c2 : p.f1 ≤ n
      · rw [show mn p.f1 n = p.f1 by unfold mn; split <;> omega]
        exact front_ok l _ _ _ h5 (by omega)
      · rw [show mn p.f1 n = n by unfold mn; split <;> omega, show n - n = 0 by omega]
        cases l <;> simp [frontM, okF]
theorem front_sum : ∀ (l : List S40) (n e real : Int), okF l e real = true → 0 ≤ n → n ≤ sumF l → sumF (frontM l n) = n
  | [], n, _, _, _, h0, h1 => by simp only [sumF, frontM] at *; omega
  | p :: l, n, e, real, h, h0, h1 => by
    simp only [okF, Bool.and_eq_true, decide_eq_true_eq] at h
    obtain ⟨⟨a1, a2, a3, a4⟩, h5⟩ := h
    simp only [frontM]
    by_cases c : n ≤ 0
    · rw [if_pos c]; simp only [sumF]; omega
    · rw [if_neg c]
      simp only [sumF] at h1 ⊢
      by_cases c2 : p.f1 ≤ n
      · rw [show mn p.f1 n = p.f1 by unfold mn; split <;> omega, front_sum l _ _ _ h5 (by omega) (by omega)]
        omega
      · rw [show mn p.f1 n = n by unfold mn; split <;> omega, show n - n = 0 by omega]
        cases l <;> simp [frontM, sumF]
theorem front_len : ∀ (l : List S40) (n : Int), (frontM l n).length ≤ l.length
  | [], _ => by simp [frontM]
  | p :: l, n => by
    simp only [frontM]
    split
    · simp
    · have := front_len l (n - mn p.f1 n)
      simp only [List.length_cons]
      omega
/-! ### The same -/
theorem same_l0 (l : List S40) (hl : l.length ≤ 9223372036854775806) : ∀ (d i : Nat), i + d = l.length → Ev (fun k => mudlarkref09_Same.l0 k l l (i : Int)) true := by
  intro d
  induction d with
  | zero =>
    intro i hi
    exact Ev.step (f := fun _ => some true) (fun k => by simp only [mudlarkref09_Same.l0]; rw [if_neg (by omega)]) (Ev.now true)
  | succ d ih =>
    intro i hi
    refine Ev.step (f := fun k => mudlarkref09_Same.l0 k l l ((i + 1 : Nat) : Int)) (fun k => ?_) (ih (i + 1) (by omega))
    simp only [mudlarkref09_Same.l0]
    rw [if_pos (by omega), if_pos (by omega), if_pos (by omega), if_neg (by simp), next_i i (by omega)]
theorem Same_ev (l : List S40) (hl : l.length ≤ 9223372036854775806) : Ev (fun k => mudlarkref09_Same.f k l l) true := by
  unfold mudlarkref09_Same.f
  refine Ev.congr (f := fun k => mudlarkref09_Same.l0 k l l ((0 : Nat) : Int)) (fun k => by rw [if_pos rfl]; rfl) ?_
  exact same_l0 l hl l.length 0 (by omega)
/-! ### Parts of choices -/
structure PartsOk (l : List S40) (n e : Int) : Prop where
  len : l.length ≤ 8
  sum : n = sumF l
  n0 : 0 ≤ n
  n1 : n ≤ 240
  e0 : -400 ≤ e
  e1 : e ≤ 560
  each : ∀ p ∈ l, 1 ≤ p.f1 ∧ p.f1 ≤ 30 ∧ -400 ≤ p.f0 ∧ p.f0 ≤ 560
theorem wf_u8 {x : Int} (h : (Lit.int .u8 x).wf = true) : 0 ≤ x ∧ x < 256 := by
  simp [Lit.wf, IntKind.min, IntKind.max, IntKind.signed, IntKind.bits] at h
  omega
theorem wf_u16 {x : Int} (h : (Lit.int .u16 x).wf = true) : 0 ≤ x ∧ x < 65536 := by
  simp [Lit.wf, IntKind.min, IntKind.max, IntKind.signed, IntKind.bits] at h
  omega
theorem rdb {c : List Int} (hc : ∀ x ∈ c, (Lit.int .u8 x).wf = true) (i : Nat) (h : i < c.length) : 0 ≤ rd c (i : Int) ∧ rd c (i : Int) < 256 := by
  have h2 := hc (c[i]) (List.getElem_mem h)
  have h3 : rd c (i : Int) = c[i] := by unfold rd; simp [List.getD, h]
  rw [h3]
  exact wf_u8 h2
theorem parts_l0 (c : List Int) (hcl : c.length ≤ 140737488351232) (hc : ∀ x ∈ c, (Lit.int .u8 x).wf = true) : ∀ (d j : Nat) (out : List S40) (at_ n : Int), j + d = 8 → out.length = j → n = sumF out → 0 ≤ n → n ≤ 30 * j → -50 * (j : Int) ≤ at_ → at_ ≤ 70 * j →
    (∀ p ∈ out, 1 ≤ p.f1 ∧ p.f1 ≤ 30 ∧ -400 ≤ p.f0 ∧ p.f0 ≤ 560) → ∃ l n' e, Ev (fun k => mudlarklaw09_Parts.l0 k c out at_ n ((2 * j : Nat) : Int)) (l, n', e) ∧ PartsOk l n' e := by
  intro d
  induction d with
  | zero =>
    intro j out at_ n hj h0 h1 h2 h3 h4 h5 h6
    obtain rfl : j = 8 := by omega
    refine ⟨out, n, at_, ?_, ⟨by omega, h1, h2, by omega, by omega, by omega, h6⟩⟩
    have hw : wrap64 (((2 * 8 : Nat) : Int) + 1) = 17 := by rw [wrap64_id _ (by omega) (by omega)]; omega
    refine Ev.step (f := fun k => mudlarklaw09_Parts.j1 k c out at_ n ((2 * 8 : Nat) : Int) false) (fun k => ?_) ?_
    · simp only [mudlarklaw09_Parts.l0]
      rw [hw]
      split <;> rfl
    · exact Ev.step (f := fun _ => some (out, n, at_)) (fun k => by simp only [mudlarklaw09_Parts.j1]; rw [if_neg (by simp)]) (Ev.now _)
  | succ d ih =>
    intro j out at_ n hj h0 h1 h2 h3 h4 h5 h6
    have w1 : wrap64 (((2 * j : Nat) : Int) + 1) = ((2 * j + 1 : Nat) : Int) := by rw [wrap64_id _ (by omega) (by omega)]; push_cast; rfl
    have w2 : wrap64 (((2 * j : Nat) : Int) + 2) = ((2 * (j + 1) : Nat) : Int) := by rw [wrap64_id _ (by omega) (by omega)]; push_cast; omega
    by_cases c1 : 2 * j + 1 < c.length
    · obtain ⟨b0, b1⟩ := rdb hc (2 * j) (by omega)
      obtain ⟨b2, b3⟩ := rdb hc (2 * j + 1) c1
      obtain ⟨x, hx⟩ : ∃ x, x = Int.tmod (rd c ((2 * j : Nat) : Int)) 40 := ⟨_, rfl⟩
      obtain ⟨y, hy⟩ : ∃ y, y = Int.tmod (rd c ((2 * j + 1 : Nat) : Int)) 30 := ⟨_, rfl⟩
      have x0 : 0 ≤ x := by rw [hx]; exact Int.tmod_nonneg _ b0
      have x1 : x < 40 := by rw [hx]; exact Int.tmod_lt_of_pos _ (by omega)
      have y0 : 0 ≤ y := by rw [hy]; exact Int.tmod_nonneg _ b2
      have y1 : y < 30 := by rw [hy]; exact Int.tmod_lt_of_pos _ (by omega)
      have hq : ∀ z : Int, -50 ≤ z → z ≤ 0 → ∃ l n' e, Ev (fun k => mudlarklaw09_Parts.l0 k c (out ++ [⟨at_ + x + z, 1 + y⟩]) (at_ + x + z + (1 + y)) (n + (1 + y)) ((2 * (j + 1) : Nat) : Int)) (l, n', e) ∧ PartsOk l n' e := by
        intro z z0 z1
        refine ih (j + 1) _ _ _ (by omega) (by simp [h0]) (by rw [sumF_app, h1]; simp [sumF]) (by omega) (by push_cast; omega) (by push_cast; omega) (by push_cast; omega) ?_
        intro p hp
        rcases List.mem_append.1 hp with h | h
        · exact h6 p h
        · rw [List.mem_singleton] at h
          subst h
          refine ⟨?_, ?_, ?_, ?_⟩ <;> simp only <;> omega
      by_cases c2 : rd c ((2 * j : Nat) : Int) > 250
      · obtain ⟨l, n', e, hev, hok⟩ := hq (-50) (by omega) (by omega)
        refine ⟨l, n', e, ?_, hok⟩
        refine Ev.step (f := fun k => mudlarklaw09_Parts.j1 k c out at_ n ((2 * j : Nat) : Int) true) (fun k => ?_) ?_
        · simp only [mudlarklaw09_Parts.l0]
          rw [w1, if_pos (by omega), decide_eq_true (by omega)]
        · refine Ev.step (f := fun k => mudlarklaw09_Parts.l0 k c (out ++ [⟨at_ + x + -50, 1 + y⟩]) (at_ + x + -50 + (1 + y)) (n + (1 + y)) ((2 * (j + 1) : Nat) : Int)) (fun k => ?_) hev
          simp only [mudlarklaw09_Parts.j1]
          rw [if_pos trivial, if_pos (by omega), if_pos (by omega), w1, if_pos (by omega), if_pos (by omega), if_pos c2, if_pos (by omega), ← hx, ← hy, w2]
          rw [wrap64_id x (by omega) (by omega), wrap64_id y (by omega) (by omega), wrap64_id (at_ + x) (by omega) (by omega), wrap64_id (1 + y) (by omega) (by omega), wrap64_id (at_ + x - 50) (by omega) (by omega), wrap64_id (n + (1 + y)) (by omega) (by omega), wrap64_id (at_ + x - 50 + (1 + y)) (by omega) (by omega)]
          rfl
      · obtain ⟨l, n', e, hev, hok⟩ := hq 0 (by omega) (by omega)
        refine ⟨l, n', e, ?_, hok⟩
        refine Ev.step (f := fun k => mudlarklaw09_Parts.j1 k c out at_ n ((2 * j : Nat) : Int) true) (fun k => ?_) ?_
        · simp only [mudlarklaw09_Parts.l0]
          rw [w1, if_pos (by omega), decide_eq_true (by omega)]
        · refine Ev.step (f := fun k => mudlarklaw09_Parts.l0 k c (out ++ [⟨at_ + x + 0, 1 + y⟩]) (at_ + x + 0 + (1 + y)) (n + (1 + y)) ((2 * (j + 1) : Nat) : Int)) (fun k => ?_) hev
          simp only [mudlarklaw09_Parts.j1]
          rw [if_pos trivial, if_pos (by omega), if_pos (by omega), w1, if_pos (by omega), if_pos (by omega), if_neg c2, if_pos (by omega), ← hx, ← hy, w2, Int.add_zero]
          rw [wrap64_id x (by omega) (by omega), wrap64_id y (by omega) (by omega), wrap64_id (at_ + x) (by omega) (by omega), wrap64_id (1 + y) (by omega) (by omega), wrap64_id (n + (1 + y)) (by omega) (by omega), wrap64_id (at_ + x + (1 + y)) (by omega) (by omega)]
    · refine ⟨out, n, at_, ?_, ⟨by omega, h1, h2, by omega, by omega, by omega, h6⟩⟩
      refine Ev.step (f := fun k => mudlarklaw09_Parts.j1 k c out at_ n ((2 * j : Nat) : Int) false) (fun k => ?_) ?_
      · simp only [mudlarklaw09_Parts.l0]
        rw [w1, if_neg (by omega)]
      · exact Ev.step (f := fun _ => some (out, n, at_)) (fun k => by simp only [mudlarklaw09_Parts.j1]; rw [if_neg (by simp)]) (Ev.now _)
theorem Parts_ev (c : List Int) (hcl : c.length * 1 ≤ 140737488351232) (hc : ∀ x ∈ c, (Lit.int .u8 x).wf = true) : ∃ l n e, Ev (fun k => mudlarklaw09_Parts.f k c) (l, n, e) ∧ PartsOk l n e :=
  parts_l0 c (by omega) hc 8 0 [] 0 0 (by omega) rfl rfl (by omega) (by omega) (by omega) (by omega) (fun p hp => by cases hp)
/-! ### The chapter's examples -/
theorem known_all : mudlarklaw09_known.f = some true := by rfl
end Go.Proofs.YtlnbkmlidmgbaaaDoor.P
