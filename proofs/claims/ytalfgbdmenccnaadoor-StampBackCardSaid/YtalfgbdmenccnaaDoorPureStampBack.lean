/- The pure statement of StampBack: what is printed is parsed as it was; what was parsed of fifteen digits, and printed, is parsed the same. No conditions. -/
import Derived.Test.YtalfgbdmenccnaaDoorHStampT
import Derived.Test.YtalfgbdmenccnaaDoorPx8
namespace Go.Proofs.YtalfgbdmenccnaaDoor.Pure
open Go Go.RowKit Go.Proofs.YtalfgbdmenccnaaDoor.P Go.Proofs.YtalfgbdmenccnaaDoorW.PrintWords Go.Proofs.YtalfgbdmenccnaaDoorW.PrintLast Go.Proofs.YtalfgbdmenccnaaDoorW.PrintMore

theorem textLoop4 (l : List Int) (hl : l.length ≤ 140737488351232) : ∀ (d i : Nat) (x : ByteArray), 22 - i = d → i ≤ 22 → x.size ≤ i → ∃ q : ByteArray, Ev (fun k => mudlarklaw04_Text.l0 k l x (i : Int)) q ∧ q.size ≤ 22
  | 0, i, x, hd, hi, hx => by
    have h22 : ¬ ((i : Int) < 22) := by omega
    refine ⟨x, Ev.step (f := fun k => mudlarklaw04_Text.j1 k l x (i : Int) false) (fun k => ?_) (Ev.step (f := fun _ => some x) (fun k => by simp [mudlarklaw04_Text.j1]) (Ev.now _)), by omega⟩
    simp only [mudlarklaw04_Text.l0]
    rw [decide_eq_false h22]
    split <;> rfl
  | d + 1, i, x, hd, hi, hx => by
    by_cases h : i < l.length
    · have hrd : rd l (i : Int) = l[i] := by simp [rd, h]
      have c1 : (i : Int) < (l.length : Int) := by omega
      have c2 : (i : Int) < 22 := by omega
      have c3 : (0 : Int) ≤ (i : Int) := by omega
      have hstep : ∀ k, mudlarklaw04_Text.l0 (k + 1) l x (i : Int) = mudlarklaw04_Text.j1 k l x (i : Int) true := fun k => by
        simp only [mudlarklaw04_Text.l0]
        rw [if_pos c1, decide_eq_true c2]
      have go : ∀ y : ByteArray, y.size = 1 → ∃ q : ByteArray, Ev (fun k => mudlarklaw04_Text.l0 k l (x ++ y) ((i + 1 : Nat) : Int)) q ∧ q.size ≤ 22 := fun y hy =>
        textLoop4 l hl d (i + 1) (x ++ y) (by omega) (by omega) (by rw [ByteArray.size_append]; omega)
      by_cases d1 : rd l (i : Int) < 200
      · obtain ⟨q, hq, hq2⟩ := go (strOfNums ([(48 + (Int.tmod (rd l (i : Int)) 10)) % 256] : List Int)) (by rw [strOfNums_size]; rfl)
        refine ⟨q, Ev.step hstep (Ev.step (fun k => ?_) hq), hq2⟩
        simp only [mudlarklaw04_Text.j1]
        rw [if_pos trivial, if_pos c3, if_pos c1, if_pos d1, Option.bind_some, if_pos (by rw [strOfNums_size]; simp only [List.length_cons, List.length_nil]; omega), next_i i (by omega)]
      · by_cases d2 : rd l (i : Int) < 235
        · obtain ⟨q, hq, hq2⟩ := go (⟨#[46]⟩ : ByteArray) rfl
          refine ⟨q, Ev.step hstep (Ev.step (fun k => ?_) hq), hq2⟩
          simp only [mudlarklaw04_Text.j1]
          rw [if_pos trivial, if_pos c3, if_pos c1, if_neg d1, if_pos d2, if_pos (by omega), next_i i (by omega)]
        · by_cases d3 : rd l (i : Int) < 248
          · obtain ⟨q, hq, hq2⟩ := go (⟨#[45]⟩ : ByteArray) rfl
            refine ⟨q, Ev.step hstep (Ev.step (fun k => ?_) hq), hq2⟩
            simp only [mudlarklaw04_Text.j1]
            rw [if_pos trivial, if_pos c3, if_pos c1, if_neg d1, if_neg d2, if_pos d3, if_pos (by omega), next_i i (by omega)]
          · obtain ⟨q, hq, hq2⟩ := go (strOfNums ([rd l (i : Int)] : List Int)) (by rw [strOfNums_size]; rfl)
            refine ⟨q, Ev.step hstep (Ev.step (fun k => ?_) hq), hq2⟩
            simp only [mudlarklaw04_Text.j1]
            rw [if_pos trivial, if_pos c3, if_pos c1, if_neg d1, if_neg d2, if_neg d3, Option.bind_some, if_pos (by rw [strOfNums_size]; simp only [List.length_cons, List.length_nil]; omega), next_i i (by omega)]
    · refine ⟨x, Ev.step (f := fun k => mudlarklaw04_Text.j1 k l x (i : Int) false) (fun k => ?_) (Ev.step (f := fun _ => some x) (fun k => by simp [mudlarklaw04_Text.j1]) (Ev.now _)), by omega⟩
      simp only [mudlarklaw04_Text.l0]
      rw [if_neg (by omega)]
theorem Text_ev (l : List Int) (hl : l.length ≤ 140737488351232) : ∃ q : List UInt8, Ev (fun k => mudlarklaw04_Text.f k l) (tx q) ∧ q.length ≤ 22 := by
  obtain ⟨q, hq, h2⟩ := textLoop4 l hl 22 0 ByteArray.empty rfl (by omega) (Nat.zero_le _)
  refine ⟨q.data.toList, ?_, by rw [Array.length_toList]; exact h2⟩
  rw [tx_data]
  exact hq
theorem parse_in (l : List UInt8) (h : (parseT l).2.2 = true) : -1000000000000000 ≤ (parseT l).1 ∧ (parseT l).1 ≤ 999999999999999 ∧ 0 ≤ (parseT l).2.1 ∧ (parseT l).2.1 ≤ 999999999 := by
  unfold parseT at h ⊢
  split
  · rename_i hc
    obtain ⟨h1, h2, h3⟩ := (dsB_iff _ 15).1 hc.1
    have l1 : dv 0 (cutD (unsig l).2).1 < 10 ^ 15 := Nat.lt_of_lt_of_le (dv_lt _ h1) (Nat.pow_le_pow_right (by omega) h3)
    have hbd : (cutD (unsig l).2).2.1.all isDig = true := by
      rcases dot_split (unsig l).2 with hn | ⟨p, t, hp, e⟩
      · rw [cut_no _ hn]; rfl
      · have := hc.2 (by rw [e, cut_at p t hp])
        exact ((dsB_iff _ 18).1 this).1
    have l3 := dv_lt _ (nines_dig _ hbd)
    rw [nines_len] at l3
    generalize dv 0 (cutD (unsig l).2).1 = s at *
    generalize dv 0 (nines (cutD (unsig l).2).2.1) = f at *
    unfold fin
    repeat' split
    all_goals simp only
    all_goals omega
  · rename_i hc
    rw [if_neg hc] at h
    cases h
theorem StampBack : mudlarklaw04_StampBack.Pure := by
  intro a0 a1 l2 w0 w1 _ hl w2
  refine Ev.rounds (g := fun k => mudlarklaw04_StampBack.f k a0 a1 l2) ?_
  have h1 : 0 ≤ a1 ∧ a1 ≤ 4294967295 := by simpa [Lit.wf, IntKind.min, IntKind.max, IntKind.bits, IntKind.signed] using w1
  obtain ⟨n, hn⟩ : ∃ n, n = Int.tmod a1 1000000000 := ⟨_, rfl⟩
  have n0 : 0 ≤ n := by rw [hn]; exact Int.tmod_nonneg _ h1.1
  have n1 : n < 1000000000 := by rw [hn]; exact Int.tmod_lt_of_pos _ (by omega)
  obtain ⟨s, hs⟩ : ∃ s, s = Int.tmod a0 999999999999999 := ⟨_, rfl⟩
  have s1 : s < 999999999999999 := by rw [hs]; exact Int.tmod_lt_of_pos _ (by omega)
  have s0 : -999999999999999 < s := by
    have h2 := Int.tmod_lt_of_pos (-a0) (show (0 : Int) < 999999999999999 by omega)
    rw [Int.neg_tmod, ← hs] at h2
    omega
  obtain ⟨q, hq, hq2⟩ := Text_ev l2 (by omega)
  unfold mudlarklaw04_StampBack.f
  rw [← hn, ← hs, wrap64_id n (by omega) (by omega)]
  refine Ev.bind (g := fun k => stamp_Print.f k s n) (Print_ev s n) ?_
  refine Ev.bind (g := fun k => stamp_Parse.f k (tx (printT s n))) (Parse_ev _ (by have := print_len s n; omega)) ?_
  refine Ev.bind hq ?_
  refine Ev.bind (g := fun k => stamp_Parse.f k (tx q)) (Parse_ev _ (by omega)) ?_
  refine Ev.bind (g := fun k => stamp_Print.f k (parseT q).1 (parseT q).2.1) (Print_ev _ _) ?_
  refine Ev.bind (g := fun k => stamp_Parse.f k (tx (printT (parseT q).1 (parseT q).2.1))) (Parse_ev _ (by have := print_len (parseT q).1 (parseT q).2.1; omega)) ?_
  refine Ev.bind known_all ?_
  rw [back s n, back, clampS_id s (by omega), clampN_id n (by omega)]
  have hin := parse_in q
  generalize parseT q = v at *
  obtain ⟨vS, vN, vb⟩ := v
  simp only at hin ⊢
  have hss : (s == s && n == n) = true := by simp
  simp only [hss, if_true]
  cases vb with
  | false => exact Ev.now true
  | true =>
    have hh := hin rfl
    simp only [if_true]
    by_cases c : vS < -999999999999999
    · rw [decide_eq_true c]
      split <;> exact Ev.now true
    · have e : (clampS vS == vS && clampN vN == vN) = true := by rw [clampS_id vS (by omega), clampN_id vN (by omega)]; simp
      simp only [e, if_true]
      exact Ev.now true
end Go.Proofs.YtalfgbdmenccnaaDoor.Pure
