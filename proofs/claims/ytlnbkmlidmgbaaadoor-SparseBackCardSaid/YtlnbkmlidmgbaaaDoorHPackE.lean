/- What was packed is expanded as it was: in lists and numbers. No conditions. -/
import Derived.Test.YtlnbkmlidmgbaaaDoorHExp9
namespace Go.Proofs.YtlnbkmlidmgbaaaDoor.P
open Go Go.RowKit Go.Proofs.YtlnbkmlidmgbaaaDoorW.PrintWords Go.Proofs.YtlnbkmlidmgbaaaDoorW.PrintLast Go.Proofs.YtlnbkmlidmgbaaaDoorW.PrintMore
set_option linter.unusedVariables false
set_option linter.unusedSimpArgs false

def lastEnd : List S40 → Int → Int
  | [], e => e
  | p :: l, _ => lastEnd l (p.f0 + p.f1)
theorem okF_snoc : ∀ (l : List S40) (q : S40) (e r : Int), okF (l ++ [q]) e r = true ↔ (okF l e r = true ∧ lastEnd l e ≤ q.f0 ∧ 0 ≤ q.f1 ∧ q.f0 ≤ r ∧ q.f1 ≤ r - q.f0)
  | [], q, e, r => by simp [okF, lastEnd]
  | p :: l, q, e, r => by
    have ih := okF_snoc l q (p.f0 + p.f1) r
    simp only [List.cons_append, okF, lastEnd, Bool.and_eq_true, ih, and_assoc]
theorem lastEnd_snoc : ∀ (l : List S40) (q : S40) (e : Int), lastEnd (l ++ [q]) e = q.f0 + q.f1
  | [], q, e => rfl
  | p :: l, q, e => lastEnd_snoc l q _
theorem splice_app (L : List Int) (a : Nat) (d x : List Int) (h : a + d.length + x.length ≤ L.length) : splice L a (d ++ x) = splice (splice L a d) (a + d.length) x := by
  have h1 : (L.take a ++ d).length = a + d.length := by rw [List.length_append, List.length_take]; omega
  unfold splice
  rw [← List.append_assoc (L.take a) d (L.drop (a + d.length))]
  have e1 : ((L.take a ++ d) ++ L.drop (a + d.length)).take (a + d.length) = L.take a ++ d := by rw [← h1]; exact List.take_left
  have e2 : ((L.take a ++ d) ++ L.drop (a + d.length)).drop (a + d.length + x.length) = L.drop (a + d.length + x.length) := by
    have := List.drop_length_add_append (l₁ := L.take a ++ d) (l₂ := L.drop (a + d.length)) x.length
    rw [h1, List.drop_drop] at this
    exact this
  rw [e1, e2, List.length_append]
  simp only [List.append_assoc, Nat.add_assoc]
theorem expandL_len : ∀ (l : List S40) (out d r : List Int), expandL l out d = some r → r.length = out.length
  | [], out, d, r, h => by rw [Option.some.inj h]
  | p :: l, out, d, r, h => by
    simp only [expandL] at h
    split at h
    · rename_i c
      rw [expandL_len l _ _ r h, length_splice _ _ _ (by rw [List.length_take]; omega)]
    · cases h
/-- A part of no bytes more. -/
theorem expandL_zero : ∀ (l : List S40) (out d r : List Int) (j : Nat), expandL l out d = some r → j ≤ out.length → expandL (l ++ [⟨(j : Int), 0⟩]) out d = some r
  | [], out, d, r, j, h, hj => by
    obtain rfl := Option.some.inj h
    show expandL [⟨(j : Int), 0⟩] out d = _
    simp only [expandL]
    rw [if_pos ⟨by omega, by omega, by omega, by omega⟩]
    simp [splice_nil]
  | p :: l, out, d, r, j, h, hj => by
    simp only [List.cons_append, expandL] at h ⊢
    split at h
    · rename_i c
      rw [if_pos c]
      exact expandL_zero l _ _ r j h (by rw [length_splice _ _ _ (by rw [List.length_take]; omega)]; exact hj)
    · cases h
/-- The last part gets more bytes. -/
theorem expandL_ext : ∀ (l : List S40) (out d r x : List Int) (a n : Nat), expandL (l ++ [⟨(a : Int), (n : Int)⟩]) out d = some r → sumF (l ++ [⟨(a : Int), (n : Int)⟩]) = d.length → a + n + x.length ≤ out.length →
    expandL (l ++ [⟨(a : Int), (n : Int) + (x.length : Int)⟩]) out (d ++ x) = some (splice r (a + n) x)
  | [], out, d, r, x, a, n, h, hs, hl => by
    have hd : d.length = n := by simp [sumF] at hs; omega
    rw [List.nil_append] at h ⊢
    simp only [expandL] at h ⊢
    rw [if_pos ⟨by omega, by omega, by omega, by omega⟩] at h
    rw [if_pos ⟨by omega, by omega, by rw [List.length_append]; omega, by omega⟩]
    have hr := Option.some.inj h
    rw [Int.toNat_natCast, Int.toNat_natCast, List.take_of_length_le (by omega)] at hr
    rw [Int.toNat_natCast, show ((n : Int) + (x.length : Int)).toNat = n + x.length by omega, List.take_of_length_le (by rw [List.length_append]; omega), ← hr, ← hd]
    rw [splice_app out a d x (by omega)]
  | p :: l, out, d, r, x, a, n, h, hs, hl => by
    simp only [List.cons_append, expandL, sumF] at h hs ⊢
    split at h
    · rename_i c
      obtain ⟨c1, c2, c3, c4⟩ := c
      rw [if_pos ⟨c1, c2, by rw [List.length_append]; omega, c4⟩, List.take_append_of_le_length (by omega), List.drop_append_of_le_length (by omega)]
      exact expandL_ext l _ _ r x a n h (by rw [List.length_drop]; omega) (by rw [length_splice _ _ _ (by rw [List.length_take]; omega)]; exact hl)
    · cases h
/-- What packing keeps. -/
structure PackI (b : List Int) (j : Nat) (out : List S40) (data : List Int) (op : Bool) : Prop where
  ok : okF out 0 (b.length : Int) = true
  last : lastEnd out 0 ≤ (j : Int)
  sum : sumF out = data.length
  now : expandL out (List.replicate b.length 0) data = some (b.take j ++ List.replicate (b.length - j) 0)
  open_ : op = true → ∃ pre a n, out = pre ++ [(⟨((a : Nat) : Int), ((n : Nat) : Int)⟩ : S40)] ∧ a + n = j
theorem sumF_snoc (l : List S40) (q : S40) : sumF (l ++ [q]) = sumF l + q.f1 := by rw [sumF_app]; simp [sumF]
theorem packI_step (b : List Int) (j : Nat) (out : List S40) (data : List Int) (op : Bool) (h : PackI b j out data op) (hj : j < b.length) :
    PackI b (min (j + 512) b.length) (addLast (opn op out j) (((b.drop j).take 512).length : Int)) (data ++ (b.drop j).take 512) true := by
  obtain ⟨x, hx⟩ : ∃ x, x = (b.drop j).take 512 := ⟨_, rfl⟩
  have hxl : x.length = min 512 (b.length - j) := by rw [hx, List.length_take, List.length_drop]
  have hjn : min (j + 512) b.length = j + x.length := by omega
  rw [← hx, hjn]
  have key : ∃ pre a n, opn op out j = pre ++ [(⟨((a : Nat) : Int), ((n : Nat) : Int)⟩ : S40)] ∧ a + n = j ∧ okF (opn op out j) 0 (b.length : Int) = true ∧ sumF (opn op out j) = data.length ∧
      expandL (opn op out j) (List.replicate b.length 0) data = some (b.take j ++ List.replicate (b.length - j) 0) := by
    cases op with
    | true =>
      obtain ⟨pre, a, n, e, han⟩ := h.open_ rfl
      exact ⟨pre, a, n, e, han, h.ok, h.sum, h.now⟩
    | false =>
      refine ⟨out, j, 0, rfl, rfl, ?_, ?_, ?_⟩
      · exact (okF_snoc out _ 0 _).2 ⟨h.ok, h.last, by simp, by simp; omega, by simp; omega⟩
      · show sumF (out ++ [⟨(j : Int), 0⟩]) = _
        rw [sumF_snoc, h.sum]
        simp
      · exact expandL_zero out _ _ _ j h.now (by rw [List.length_replicate]; omega)
  obtain ⟨pre, a, n, e, han, k1, k2, k3⟩ := key
  rw [e] at k1 k2 k3 ⊢
  have hadd : addLast (pre ++ [(⟨(a : Int), (n : Int)⟩ : S40)]) (x.length : Int) = pre ++ [⟨(a : Int), (n : Int) + (x.length : Int)⟩] := by
    unfold addLast
    rw [List.length_append, List.length_cons, List.length_nil, Nat.zero_add, Nat.add_sub_cancel, List.set_append_right _ _ (Nat.le_refl _), Nat.sub_self, List.set_cons_zero]
    simp [List.getD]
  have hlen : (addLast (pre ++ [(⟨(a : Int), (n : Int)⟩ : S40)]) (x.length : Int)).length = (pre ++ [(⟨(a : Int), (n : Int)⟩ : S40)]).length := addLast_length _ _
  obtain ⟨m1, m2, m3, m4, m5⟩ := (okF_snoc pre _ 0 _).1 k1
  simp only at m2 m3 m4 m5
  refine ⟨?_, ?_, ?_, ?_, ?_⟩
  · rw [hadd]
    exact (okF_snoc pre _ 0 _).2 ⟨m1, m2, by simp only; omega, m4, by simp only; omega⟩
  · rw [hadd, lastEnd_snoc]
    simp only
    omega
  · rw [hadd, sumF_snoc, List.length_append]
    rw [sumF_snoc] at k2
    simp only at k2 ⊢
    omega
  · rw [hadd, expandL_ext pre _ _ _ x a n k3 k2 (by rw [List.length_replicate]; omega)]
    congr 1
    have hbl : (b.take j).length = j := by rw [List.length_take]; omega
    unfold splice
    rw [han, List.take_append_of_le_length (by omega), List.take_of_length_le (by omega), List.drop_append, List.drop_eq_nil_of_le (by omega), hbl, List.nil_append, List.drop_replicate]
    rw [show b.length - j - (j + x.length - j) = b.length - (j + x.length) by omega, ← List.append_assoc]
    congr 1
    rw [hx, List.take_add, ← hx, hxl]
    congr 1
    rw [hx]
    rcases Nat.lt_or_ge (b.length - j) 512 with hc | hc
    · rw [Nat.min_eq_right (by omega), List.take_of_length_le (by rw [List.length_drop]; omega), List.take_of_length_le (by rw [List.length_drop]; omega)]
    · rw [Nat.min_eq_left (by omega)]
  · intro _
    exact ⟨pre, a, n + x.length, by rw [hadd]; push_cast; rfl, by omega⟩
theorem packI_skip (b : List Int) (j : Nat) (out : List S40) (data : List Int) (op : Bool) (h : PackI b j out data op) (hj : j < b.length) (hz : noB ((b.drop j).take 512) = true) : PackI b (min (j + 512) b.length) out data false := by
  refine ⟨h.ok, ?_, h.sum, ?_, fun e => by cases e⟩
  · have := h.last; omega
  · rw [h.now]
    congr 1
    obtain ⟨x, hx⟩ : ∃ x, x = (b.drop j).take 512 := ⟨_, rfl⟩
    have hxl : x.length = min 512 (b.length - j) := by rw [hx, List.length_take, List.length_drop]
    have hxz : x = List.replicate x.length 0 := by
      rw [← hx] at hz
      apply List.eq_replicate_iff.2
      refine ⟨rfl, fun y hy => ?_⟩
      have := List.all_eq_true.1 hz y hy
      simpa using this
    have e1 : b.take (min (j + 512) b.length) = b.take j ++ x := by
      rw [show min (j + 512) b.length = j + x.length by omega, List.take_add, hx]
      congr 1
      rcases Nat.lt_or_ge (b.length - j) 512 with hc | hc
      · rw [List.take_of_length_le (by rw [List.length_drop, List.length_take, List.length_drop]; omega), List.take_of_length_le (by rw [List.length_drop]; omega)]
      · rw [List.length_take, List.length_drop, Nat.min_eq_left (by omega)]
    rw [e1, List.append_assoc]
    congr 1
    obtain ⟨n, hn⟩ : ∃ n, x = List.replicate n 0 := ⟨x.length, hxz⟩
    have hnl : x.length = n := by rw [hn, List.length_replicate]
    rw [hn, List.replicate_append_replicate]
    congr 1
    omega
theorem packI_end (b : List Int) : ∀ (f j : Nat) (out : List S40) (data : List Int) (op : Bool), b.length ≤ j + 512 * f → PackI b (min j b.length) out data op → ∃ op', PackI b b.length (packR b f j out data op).1 (packR b f j out data op).2 op'
  | 0, j, out, data, op, h0, h => ⟨op, by rw [Nat.min_eq_right (by omega)] at h; exact h⟩
  | f + 1, j, out, data, op, h0, h => by
    simp only [packR]
    by_cases c : j < b.length
    · rw [if_pos c]
      rw [Nat.min_eq_left (by omega)] at h
      by_cases c2 : noB ((b.drop j).take 512) = true
      · rw [if_pos c2]
        exact packI_end b f (j + 512) out data false (by omega) (packI_skip b j out data op h c c2)
      · rw [if_neg c2]
        exact packI_end b f (j + 512) _ _ true (by omega) (packI_step b j out data op h c)
    · rw [if_neg c]
      exact ⟨op, by rw [Nat.min_eq_right (by omega)] at h; exact h⟩
theorem packR_few (b : List Int) : ∀ (f j : Nat) (out : List S40) (data : List Int) (op : Bool), 512 * out.length ≤ j → 512 * (packR b f j out data op).1.length ≤ max j (b.length + 511)
  | 0, j, out, data, op, h => by simp only [packR]; omega
  | f + 1, j, out, data, op, h => by
    simp only [packR]
    by_cases c : j < b.length
    · rw [if_pos c]
      split
      · have := packR_few b f (j + 512) out data false (by omega)
        omega
      · have hl : (addLast (opn op out j) (((b.drop j).take 512).length : Int)).length ≤ out.length + 1 := by
          rw [addLast_length]
          cases op <;> simp [opn]
        have := packR_few b f (j + 512) (addLast (opn op out j) (((b.drop j).take 512).length : Int)) (data ++ (b.drop j).take 512) true (by omega)
        omega
    · rw [if_neg c]
      simp only
      omega
theorem packM_ok (b : List Int) : okF (packM b).1 0 (b.length : Int) = true ∧ sumF (packM b).1 = (packM b).2.length ∧ expandL (packM b).1 (List.replicate b.length 0) (packM b).2 = some b ∧ 512 * (packM b).1.length ≤ b.length + 511 := by
  obtain ⟨op', h⟩ := packI_end b (b.length + 1) 0 [] [] false (by omega) ⟨rfl, by simp [lastEnd], rfl, by simp [expandL], fun e => by cases e⟩
  have hf := packR_few b (b.length + 1) 0 [] [] false (by simp)
  refine ⟨h.ok, h.sum, ?_, by unfold packM; omega⟩
  have hn := h.now
  rw [List.take_of_length_le (Nat.le_refl _), Nat.sub_self, List.replicate_zero, List.append_nil] at hn
  exact hn
theorem okF_small : ∀ (l : List S40) (e r : Int), okF l e r = true → 0 ≤ e → ∀ p ∈ l, 0 ≤ p.f0 ∧ p.f0 ≤ r ∧ 0 ≤ p.f1 ∧ p.f1 ≤ r
  | [], _, _, _, _, p, hp => by cases hp
  | q :: l, e, r, h, h0, p, hp => by
    simp only [okF, Bool.and_eq_true, decide_eq_true_eq] at h
    obtain ⟨⟨a1, a2, a3, a4⟩, h5⟩ := h
    rcases List.mem_cons.1 hp with rfl | hp
    · exact ⟨by omega, a3, a2, by omega⟩
    · exact okF_small l _ r h5 (by omega) p hp
end Go.Proofs.YtlnbkmlidmgbaaaDoor.P
