/- Parts of a block, the program's and the reference's: in lists and numbers. No conditions. -/
import Derived.Test.YtlnbkmlidmgbaaaDoorHNumP
import Derived.Test.YtlnbkmlidmgbaaaDoorPx8
import Derived.Test.YtlnbkmlidmgbaaaDoorPx11
namespace Go.Proofs.YtlnbkmlidmgbaaaDoor.P
open Go.RowKit Go.Shelf Go.Lib Go.Proofs.YtlnbkmlidmgbaaaDoorW.PrintWords Go.Proofs.YtlnbkmlidmgbaaaDoorW.PrintLast Go.Proofs.YtlnbkmlidmgbaaaDoorW.PrintMore
set_option linter.unusedVariables false
set_option linter.unusedSimpArgs false

/-- A block's parts: at most so many. -/
def partsM : Nat → List Int → List S40 → List S40 × Bool
  | 0, _, out => (out, true)
  | n + 1, b, out => if b.length < 24 then ([], false) else if (parseF (b.take 12)).2 = true ∧ (parseF ((b.take 24).drop 12)).2 = true ∧ 0 ≤ (parseF (b.take 12)).1 ∧ 0 ≤ (parseF ((b.take 24).drop 12)).1 then (if (parseF (b.take 12)).1 = 0 ∧ (parseF ((b.take 24).drop 12)).1 = 0 then (out, true) else partsM n (b.drop 24) (out ++ [⟨(parseF (b.take 12)).1, (parseF ((b.take 24).drop 12)).1⟩])) else ([], false)
theorem partsM_len : ∀ (d : Nat) (b : List Int) (out : List S40), (partsM d b out).1.length ≤ out.length + d
  | 0, b, out => by simp [partsM]
  | d + 1, b, out => by
    unfold partsM
    split
    · simp
    · split
      · split
        · simp
        · have := partsM_len d (b.drop 24) (out ++ [⟨(parseF (b.take 12)).1, (parseF ((b.take 24).drop 12)).1⟩])
          rw [List.length_append] at this
          simp only [List.length_cons, List.length_nil] at this
          omega
      · simp
theorem mn_neg (x y : Int) : decide (mn x y < 0) = !(decide (0 ≤ x) && decide (0 ≤ y)) := by
  unfold mn
  by_cases h1 : 0 ≤ x <;> by_cases h2 : 0 ≤ y <;> simp only [h1, h2, decide_true, decide_false, Bool.and_self, Bool.and_true, Bool.and_false, Bool.true_and, Bool.not_true, Bool.not_false, decide_eq_true_eq, decide_eq_false_iff_not] <;> split <;> omega
theorem head_l0 (N : Nat) (hN : N ≤ 21) : ∀ (d i : Nat) (b : List Int) (out : List S40), i + d = N → Bytes b → b.length < 9223372036854775807 → out.length ≤ i → Ev (fun k => head_Parts.l0 k b out (N : Int) (i : Int)) (partsM d b out)
  | 0, i, b, out, hd, hb, hl, ho => by
    refine Ev.step (f := fun _ => some (out, true)) (fun k => ?_) (Ev.now _)
    simp only [head_Parts.l0]
    rw [if_neg (by omega)]
  | d + 1, i, b, out, hd, hb, hl, ho => by
    have hj : ∀ x y, Ev (fun k => head_Parts.j1 k b out x y (N : Int) (i : Int) true) ([], false) := fun x y => Ev.step (f := fun _ => some ([], false)) (fun k => by simp only [head_Parts.j1]; rw [if_pos trivial]) (Ev.now _)
    unfold partsM
    by_cases c1 : b.length < 24
    · rw [if_pos c1]
      refine Ev.step (f := fun _ => some ([], false)) (fun k => ?_) (Ev.now _)
      simp only [head_Parts.l0]
      rw [if_pos (by omega), if_pos (by omega)]
    · rw [if_neg c1]
      have ih := head_l0 N hN d (i + 1) (b.drop 24)
      have p1 := Parse_eq (b.take 12) (hb.take 12) (by rw [List.length_take]; omega)
      have p2 := Parse_eq ((b.take 24).drop 12) ((hb.take 24).drop 12) (by rw [List.length_drop, List.length_take]; omega)
      generalize parseF (b.take 12) = q1 at p1 ⊢
      generalize parseF ((b.take 24).drop 12) = q2 at p2 ⊢
      obtain ⟨x, okx⟩ := q1
      obtain ⟨y, oky⟩ := q2
      refine Ev.step (f := fun k => (num_Parse.f k (b.take 12)).bind fun bt176 => ((num_Parse.f k ((b.take 24).drop 12)).bind fun bt183 => (if bt176.2 = true then (if bt183.2 = true then (head_Parts.j1 k b out bt176.1 bt183.1 (N : Int) (i : Int) (decide ((mn bt176.1 bt183.1) < 0))) else (head_Parts.j1 k b out bt176.1 bt183.1 (N : Int) (i : Int) true)) else (head_Parts.j1 k b out bt176.1 bt183.1 (N : Int) (i : Int) true)))) (fun k => ?_) ?_
      · simp only [head_Parts.l0]
        rw [if_pos (by omega), if_neg (by omega), if_pos (by omega)]
        congr 1
        funext bt
        rw [if_pos (by decide), if_pos (by omega)]
      · refine Ev.bind p1 (Ev.bind p2 ?_)
        cases okx with
        | false =>
          rw [if_neg (by simp)]
          exact hj x y
        | true =>
          cases oky with
          | false =>
            rw [if_neg (by simp)]
            exact hj x y
          | true =>
            simp only [if_true, true_and]
            rw [mn_neg]
            by_cases h0 : 0 ≤ x ∧ 0 ≤ y
            · rw [if_pos h0, decide_eq_true h0.1, decide_eq_true h0.2]
              by_cases c2 : x = 0 ∧ y = 0
              · rw [if_pos c2]
                refine Ev.step (f := fun _ => some (out, true)) (fun k => ?_) (Ev.now _)
                simp only [Bool.and_self, Bool.not_true, head_Parts.j1]
                rw [if_neg (by simp), if_pos c2.1, if_pos c2.2]
              · rw [if_neg c2]
                have ih2 := ih (out ++ [⟨x, y⟩]) (by omega) (hb.drop 24) (by rw [List.length_drop]; omega) (by rw [List.length_append]; simp only [List.length_cons, List.length_nil]; omega)
                refine Ev.step (fun k => ?_) ih2
                simp only [Bool.and_self, Bool.not_true, head_Parts.j1]
                rw [if_neg (by simp), next_i i (by omega)]
                by_cases c3 : x = 0
                · rw [if_pos c3, if_neg (fun e => c2 ⟨c3, e⟩), if_pos (by omega), if_pos (by omega)]
                · rw [if_neg c3, if_pos (by omega), if_pos (by omega)]
            · rw [if_neg h0]
              have : (!(decide (0 ≤ x) && decide (0 ≤ y))) = true := by
                by_cases h1 : 0 ≤ x <;> by_cases h2 : 0 ≤ y <;> simp_all
              rw [this]
              exact hj x y
theorem w_mul24 (i : Nat) (h : i ≤ 21) : wrap64 (24 * (i : Int)) = 24 * (i : Int) := wrap64_id _ (by omega) (by omega)
theorem w_at24 (a i m : Nat) (ha : a ≤ 512) (h : i ≤ 21) (hm : m = a + 24 * i) : wrap64 ((a : Int) + 24 * (i : Int)) = (m : Int) := by rw [wrap64_id _ (by omega) (by omega)]; omega
theorem w_p24 (m : Nat) (h : m ≤ 4611686018427387904) : wrap64 ((m : Int) + 24) = ((m + 24 : Nat) : Int) := by rw [wrap64_id _ (by omega) (by omega)]; omega
theorem w_p12 (m : Nat) (h : m ≤ 4611686018427387904) : wrap64 ((m : Int) + 12) = ((m + 12 : Nat) : Int) := by rw [wrap64_id _ (by omega) (by omega)]; omega
theorem w_p1 (m : Nat) (h : m ≤ 4611686018427387904) : wrap64 ((m : Int) + 1) = ((m + 1 : Nat) : Int) := by rw [wrap64_id _ (by omega) (by omega)]; omega
set_option maxHeartbeats 1000000 in
theorem ref_l0 (l : List Int) (hb : Bytes l) (hl : l.length ≤ 4611686018427387904) (a N : Nat) (ha : a ≤ 512) (hN : N ≤ 21) : ∀ (d i : Nat) (out : List S40), i + d = N → out.length ≤ i → Ev (fun k => mudlarkref08_Parts.l0 k l (a : Int) (N : Int) out (i : Int)) (partsM d (l.drop (a + 24 * i)) out)
  | 0, i, out, hd, ho => by
    refine Ev.step (f := fun _ => some (out, true)) (fun k => ?_) (Ev.now _)
    simp only [mudlarkref08_Parts.l0]
    rw [if_neg (by omega)]
  | d + 1, i, out, hd, ho => by
    have hj : ∀ x y, Ev (fun k => mudlarkref08_Parts.j1 k l (a : Int) (N : Int) out (i : Int) x y true) ([], false) := fun x y => Ev.step (f := fun _ => some ([], false)) (fun k => by simp only [mudlarkref08_Parts.j1]; rw [if_pos trivial]) (Ev.now _)
    have hi : i ≤ 21 := by omega
    obtain ⟨m, hm⟩ : ∃ m, m = a + 24 * i := ⟨_, rfl⟩
    have hm9 : m ≤ 4611686018427387904 := by omega
    have hdl : (l.drop m).length = l.length - m := List.length_drop
    rw [← hm]
    unfold partsM
    by_cases c1 : (l.drop m).length < 24
    · rw [if_pos c1]
      refine Ev.step (f := fun _ => some ([], false)) (fun k => ?_) (Ev.now _)
      simp only [mudlarkref08_Parts.l0]
      rw [if_pos (by omega), w_mul24 i hi, w_at24 a i m ha hi hm, w_p24 m hm9, if_pos (by omega)]
    · rw [if_neg c1]
      have hd24 : (l.drop m).drop 24 = l.drop (a + 24 * (i + 1)) := by rw [List.drop_drop]; congr 1; omega
      have s1 : (l.take (m + 12)).drop m = (l.drop m).take 12 := by rw [List.drop_take]; congr 1; omega
      have s2 : (l.take (m + 24)).drop (m + 12) = ((l.drop m).take 24).drop 12 := by rw [List.drop_take, List.drop_take, List.drop_drop]; congr 1; omega
      have ih := ref_l0 l hb hl a N ha hN d (i + 1)
      rw [← hd24] at ih
      have p1 := RefParse_eq ((l.drop m).take 12) ((hb.drop m).take 12) (by rw [List.length_take]; omega)
      have p2 := RefParse_eq (((l.drop m).take 24).drop 12) (((hb.drop m).take 24).drop 12) (by rw [List.length_drop, List.length_take]; omega)
      generalize parseF ((l.drop m).take 12) = q1 at p1 ⊢
      generalize parseF (((l.drop m).take 24).drop 12) = q2 at p2 ⊢
      obtain ⟨x, okx⟩ := q1
      obtain ⟨y, oky⟩ := q2
      refine Ev.step (f := fun k => (mudlarkref01_Parse.f k ((l.drop m).take 12)).bind fun bt223 => ((mudlarkref01_Parse.f k (((l.drop m).take 24).drop 12)).bind fun bt226 => (if bt223.2 = true then (if bt226.2 = true then (if bt223.1 < 0 then (mudlarkref08_Parts.j1 k l (a : Int) (N : Int) out (i : Int) bt223.1 bt226.1 true) else (mudlarkref08_Parts.j1 k l (a : Int) (N : Int) out (i : Int) bt223.1 bt226.1 (decide (bt226.1 < 0)))) else (mudlarkref08_Parts.j1 k l (a : Int) (N : Int) out (i : Int) bt223.1 bt226.1 true)) else (mudlarkref08_Parts.j1 k l (a : Int) (N : Int) out (i : Int) bt223.1 bt226.1 true)))) (fun k => ?_) ?_
      · simp only [mudlarkref08_Parts.l0]
        rw [if_pos (by omega), w_mul24 i hi, w_at24 a i m ha hi hm, w_p24 m hm9, w_p12 m hm9, if_neg (by omega), if_pos (by omega), if_pos (by omega), if_pos (by omega), Int.toNat_natCast, Int.toNat_natCast, Int.toNat_natCast, s1, s2]
        congr 1
        funext bt
        rw [if_pos (by omega), if_pos (by omega), if_pos (by omega)]
      · refine Ev.bind p1 (Ev.bind p2 ?_)
        cases okx with
        | false =>
          rw [if_neg (by simp)]
          exact hj x y
        | true =>
          cases oky with
          | false =>
            rw [if_neg (by simp)]
            exact hj x y
          | true =>
            simp only [if_true, true_and]
            by_cases h1 : x < 0
            · rw [if_neg (by omega)]
              simp only [if_pos h1]
              exact hj x y
            · simp only [if_neg h1]
              by_cases h2 : y < 0
              · rw [if_neg (by omega), decide_eq_true h2]
                exact hj x y
              · rw [if_pos (by omega), decide_eq_false h2]
                by_cases c2 : x = 0 ∧ y = 0
                · rw [if_pos c2]
                  refine Ev.step (f := fun _ => some (out, true)) (fun k => ?_) (Ev.now _)
                  simp only [mudlarkref08_Parts.j1]
                  rw [if_neg (by simp), if_pos c2.1, if_pos c2.2]
                · rw [if_neg c2]
                  refine Ev.step (fun k => ?_) (ih (out ++ [⟨x, y⟩]) (by omega) (by rw [List.length_append]; simp only [List.length_cons, List.length_nil]; omega))
                  simp only [mudlarkref08_Parts.j1]
                  rw [if_neg (by simp), w_p1 i (by omega)]
                  by_cases c3 : x = 0
                  · rw [if_pos c3, if_neg (fun e => c2 ⟨c3, e⟩), if_pos (by omega)]
                  · rw [if_neg c3, if_pos (by omega)]
theorem clip (a c : Int) (hc : 0 ≤ c) : ∃ n : Nat, mx 0 (mn a c) = n ∧ (n : Int) ≤ c := by
  refine ⟨(mx 0 (mn a c)).toNat, ?_, ?_⟩ <;> unfold mx mn <;> split <;> split <;> omega
def partsR (l : List Int) (a n : Int) : List S40 × Bool := partsM (mx 0 (mn n 21)).toNat (l.drop (mx 0 (mn a 512)).toNat) []
theorem HeadParts_ev (l : List Int) (hb : Bytes l) (hl : l.length ≤ 4611686018427387904) (a1 a2 : Int) : Ev (fun k => head_Parts.f k l a1 a2) (partsR l a1 a2) := by
  obtain ⟨a, ha, ha2⟩ := clip a1 512 (by decide)
  obtain ⟨n, hn, hn2⟩ := clip a2 21 (by decide)
  unfold partsR
  have hq : 0 ≤ mn (l.length : Int) (a : Int) ∧ mn (l.length : Int) (a : Int) ≤ (l.length : Int) ∧ l.drop (mn (l.length : Int) (a : Int)).toNat = l.drop a := by
    unfold mn
    split
    · exact ⟨by omega, by omega, by rw [Int.toNat_natCast]⟩
    · exact ⟨by omega, by omega, by rw [Int.toNat_natCast, List.drop_length, List.drop_eq_nil_of_le (by omega)]⟩
  rw [ha, hn, Int.toNat_natCast, Int.toNat_natCast]
  refine Ev.congr (fun k => ?_) (head_l0 n (by omega) n 0 (l.drop a) [] (by omega) (hb.drop a) (by rw [List.length_drop]; omega) (by simp))
  unfold head_Parts.f
  rw [ha, hn, if_pos hq.1, if_pos hq.2.1, hq.2.2]
  rfl
theorem RefParts_ev (l : List Int) (hb : Bytes l) (hl : l.length ≤ 4611686018427387904) (a1 a2 : Int) : Ev (fun k => mudlarkref08_Parts.f k l a1 a2) (partsR l a1 a2) := by
  obtain ⟨a, ha, ha2⟩ := clip a1 512 (by decide)
  obtain ⟨n, hn, hn2⟩ := clip a2 21 (by decide)
  unfold partsR
  rw [ha, hn, Int.toNat_natCast, Int.toNat_natCast]
  refine Ev.congr (fun k => ?_) (ref_l0 l hb hl a n (by omega) (by omega) n 0 [] (by omega) (by simp))
  unfold mudlarkref08_Parts.f
  rw [ha, hn]
  rfl
theorem partsR_len (l : List Int) (a n : Int) : (partsR l a n).1.length ≤ 21 := by
  obtain ⟨m, hm, hm2⟩ := clip n 21 (by decide)
  have h := partsM_len (mx 0 (mn n 21)).toNat (l.drop (mx 0 (mn a 512)).toNat) []
  unfold partsR
  rw [hm, Int.toNat_natCast] at h ⊢
  simp at h
  omega
end Go.Proofs.YtlnbkmlidmgbaaaDoor.P
