/- The pure statement of StampParses: Parse of any text, and of choices, is what the chapter says. No conditions. -/
import Derived.Test.YtalfgbdmenccnaaDoorHStampR
import Derived.Test.YtalfgbdmenccnaaDoorHWParses
namespace Go.Proofs.YtalfgbdmenccnaaDoor.Pure
open Go Go.RowKit Go.Proofs.YtalfgbdmenccnaaDoor.P Go.Proofs.YtalfgbdmenccnaaDoorW.PrintWords Go.Proofs.YtalfgbdmenccnaaDoorW.PrintLast Go.Proofs.YtalfgbdmenccnaaDoorW.PrintMore

theorem textLoop4 (l : List Int) (hl : l.length ≤ 140737488351232) : ∀ (d i : Nat) (x : ByteArray), 22 - i = d → i ≤ 22 → x.size ≤ i → ∃ q : ByteArray, Ev (fun k => mudlarklaw04_Text.l0 k l x (i : Int)) q ∧ q.size ≤ 22
  | 0, i, x, hd, hi, hx => by
    have h22 : ¬ ((i : Int) < 22) := by omega
    refine ⟨x, Ev.step (f := fun k => mudlarklaw04_Text.j1 k l x (i : Int) false) (fun k => ?_) (Ev.step (f := fun _ => some x) (fun k => by simp [mudlarklaw04_Text.j1]) (Ev.now _)), by omega⟩
    simp only [mudlarklaw04_Text.l0]
    rw [decide_eq_false h22]
    split <;> rfl
  | d + 1, i, x, hd, hi, hx => by
    by_cases h : i < l.length
    · have hrd : rd l (i : Int) = l[i] := by simp [rd, h]
      have c1 : (i : Int) < (l.length : Int) := by omega
      have c2 : (i : Int) < 22 := by omega
      have c3 : (0 : Int) ≤ (i : Int) := by omega
      have hstep : ∀ k, mudlarklaw04_Text.l0 (k + 1) l x (i : Int) = mudlarklaw04_Text.j1 k l x (i : Int) true := fun k => by
        simp only [mudlarklaw04_Text.l0]
        rw [if_pos c1, decide_eq_true c2]
      have go : ∀ y : ByteArray, y.size = 1 → ∃ q : ByteArray, Ev (fun k => mudlarklaw04_Text.l0 k l (x ++ y) ((i + 1 : Nat) : Int)) q ∧ q.size ≤ 22 := fun y hy =>
        textLoop4 l hl d (i + 1) (x ++ y) (by omega) (by omega) (by rw [ByteArray.size_append]; omega)
      by_cases d1 : rd l (i : Int) < 200
      · obtain ⟨q, hq, hq2⟩ := go (strOfNums ([(48 + (Int.tmod (rd l (i : Int)) 10)) % 256] : List Int)) (by rw [strOfNums_size]; rfl)
        refine ⟨q, Ev.step hstep (Ev.step (fun k => ?_) hq), hq2⟩
        simp only [mudlarklaw04_Text.j1]
        rw [if_pos trivial, if_pos c3, if_pos c1, if_pos d1, Option.bind_some, if_pos (by rw [strOfNums_size]; simp only [List.length_cons, List.length_nil]; omega), next_i i (by omega)]
      · by_cases d2 : rd l (i : Int) < 235
        · obtain ⟨q, hq, hq2⟩ := go (⟨#[46]⟩ : ByteArray) rfl
          refine ⟨q, Ev.step hstep (Ev.step (fun k => ?_) hq), hq2⟩
          simp only [mudlarklaw04_Text.j1]
          rw [if_pos trivial, if_pos c3, if_pos c1, if_neg d1, if_pos d2, if_pos (by omega), next_i i (by omega)]
        · by_cases d3 : rd l (i : Int) < 248
          · obtain ⟨q, hq, hq2⟩ := go (⟨#[45]⟩ : ByteArray) rfl
            refine ⟨q, Ev.step hstep (Ev.step (fun k => ?_) hq), hq2⟩
            simp only [mudlarklaw04_Text.j1]
            rw [if_pos trivial, if_pos c3, if_pos c1, if_neg d1, if_neg d2, if_pos d3, if_pos (by omega), next_i i (by omega)]
          · obtain ⟨q, hq, hq2⟩ := go (strOfNums ([rd l (i : Int)] : List Int)) (by rw [strOfNums_size]; rfl)
            refine ⟨q, Ev.step hstep (Ev.step (fun k => ?_) hq), hq2⟩
            simp only [mudlarklaw04_Text.j1]
            rw [if_pos trivial, if_pos c3, if_pos c1, if_neg d1, if_neg d2, if_neg d3, Option.bind_some, if_pos (by rw [strOfNums_size]; simp only [List.length_cons, List.length_nil]; omega), next_i i (by omega)]
    · refine ⟨x, Ev.step (f := fun k => mudlarklaw04_Text.j1 k l x (i : Int) false) (fun k => ?_) (Ev.step (f := fun _ => some x) (fun k => by simp [mudlarklaw04_Text.j1]) (Ev.now _)), by omega⟩
      simp only [mudlarklaw04_Text.l0]
      rw [if_neg (by omega)]
theorem Text_ev (l : List Int) (hl : l.length ≤ 140737488351232) : ∃ q : List UInt8, Ev (fun k => mudlarklaw04_Text.f k l) (tx q) ∧ q.length ≤ 22 := by
  obtain ⟨q, hq, h2⟩ := textLoop4 l hl 22 0 ByteArray.empty rfl (by omega) (Nat.zero_le _)
  refine ⟨q.data.toList, ?_, by rw [Array.length_toList]; exact h2⟩
  rw [tx_data]
  exact hq
theorem StampParses : mudlarklaw04_StampParses.Pure := by
  intro a0 l1 _ _ hl w1
  refine Ev.rounds (g := fun k => mudlarklaw04_StampParses.f k a0 l1) ?_
  have hyes : Ev (fun k => mudlarklaw04_StampParses.j0 k a0 l1 true) true := by
    refine Ev.step (f := fun k => (mudlarklaw04_known.f k).bind fun t => some t) (fun k => by simp only [mudlarklaw04_StampParses.j0]; rw [if_pos trivial]) ?_
    exact Ev.bind known_all (Ev.now true)
  by_cases h : (a0.size : Int) > 100
  · refine Ev.congr (fun k => ?_) hyes
    unfold mudlarklaw04_StampParses.f
    rw [if_pos h]
  · obtain ⟨q, hq, hq2⟩ := Text_ev l1 (by omega)
    obtain ⟨s, rfl⟩ : ∃ s, a0 = tx s := ⟨_, (tx_data a0).symm⟩
    rw [tx_size] at h
    have e45 : (⟨#[45]⟩ : ByteArray) ++ tx q = tx (45 :: q) := by
      rw [show (⟨#[45]⟩ : ByteArray) = tx [45] from rfl, tx_app]
      rfl
    have hno : Ev (fun k => mudlarklaw04_StampParses.j0 k (tx s) l1 false) true := by
      refine Ev.step (f := fun k => (stamp_Parse.f k (tx s)).bind fun bt220 => ((mudlarkref04_Parse.f k (tx s)).bind fun bt224 => ((mudlarklaw04_Text.f k l1).bind fun t228 => ((stamp_Parse.f k t228).bind fun bt229 => ((mudlarklaw04_Text.f k l1).bind fun t233 => ((mudlarkref04_Parse.f k t233).bind fun bt234 => ((mudlarklaw04_Text.f k l1).bind fun t238 => (if 1 + t238.size ≤ 9223372036854775807 then ((stamp_Parse.f k ((⟨#[45]⟩ : ByteArray) ++ t238)).bind fun bt239 => ((mudlarklaw04_Text.f k l1).bind fun t243 => (if 1 + t243.size ≤ 9223372036854775807 then ((mudlarkref04_Parse.f k ((⟨#[45]⟩ : ByteArray) ++ t243)).bind fun bt244 => (if (bt220.1 == bt224.1 && (bt220.2.1 == bt224.2.1)) = true then (if (bt220.2.2 == bt224.2.2) = true then (if (bt229.1 == bt234.1 && (bt229.2.1 == bt234.2.1)) = true then (if (bt229.2.2 == bt234.2.2) = true then (if (bt239.1 == bt244.1 && (bt239.2.1 == bt244.2.1)) = true then (some (bt239.2.2 == bt244.2.2)) else (some false)) else (some false)) else (some false)) else (some false)) else (some false))) else (none)))) else (none)))))))))  (fun k => ?_) ?_
      · simp only [mudlarklaw04_StampParses.j0]
        rw [if_neg (by simp)]
      · have b1 : 1 + (tx q).size ≤ 9223372036854775807 := by rw [tx_size]; omega
        refine Ev.bind (g := fun k => stamp_Parse.f k (tx s)) (Parse_ev s (by omega)) ?_
        refine Ev.bind (g := fun k => mudlarkref04_Parse.f k (tx s)) (RefParse_ev s (by omega)) ?_
        refine Ev.bind hq ?_
        refine Ev.bind (g := fun k => stamp_Parse.f k (tx q)) (Parse_ev q (by omega)) ?_
        refine Ev.bind hq ?_
        refine Ev.bind (g := fun k => mudlarkref04_Parse.f k (tx q)) (RefParse_ev q (by omega)) ?_
        refine Ev.bind hq ?_
        refine Ev.congr (fun k => if_pos b1) ?_
        rw [e45]
        refine Ev.bind (g := fun k => stamp_Parse.f k (tx (45 :: q))) (Parse_ev _ (by rw [List.length_cons]; omega)) ?_
        refine Ev.bind hq ?_
        refine Ev.congr (fun k => if_pos b1) ?_
        rw [e45]
        refine Ev.bind (g := fun k => mudlarkref04_Parse.f k (tx (45 :: q))) (RefParse_ev _ (by rw [List.length_cons]; omega)) ?_
        simp only [beq_self_eq_true, Bool.and_self, if_true]
        exact Ev.now true
    refine Ev.congr (f := fun k => (mudlarklaw04_known.f k).bind fun t218 => mudlarklaw04_StampParses.j0 k (tx s) l1 (!t218)) (fun k => ?_) (Ev.bind known_all hno)
    unfold mudlarklaw04_StampParses.f
    rw [if_neg (by rw [tx_size]; omega)]
end Go.Proofs.YtalfgbdmenccnaaDoor.Pure
