/- The chapter's own Parse comes to the same as the program's. No conditions. -/
import Derived.Test.YtalfgbdmenccnaaDoorHStampT
import Derived.Test.YtalfgbdmenccnaaDoorPx5
namespace Go.Proofs.YtalfgbdmenccnaaDoor.P
open Go Go.RowKit Go.Shelf Go.Lib Go.Proofs.YtalfgbdmenccnaaDoorW.PrintWords Go.Proofs.YtalfgbdmenccnaaDoorW.PrintLast Go.Proofs.YtalfgbdmenccnaaDoorW.PrintMore
set_option linter.unusedVariables false
set_option linter.unusedSimpArgs false

/-- A text's byte, noughts behind it. -/
def at48 (l : List UInt8) (i : Nat) : UInt8 := if h : i < l.length then l[i] else 48
theorem at48_dig (l : List UInt8) (i : Nat) (h : ¬ i < l.length) : isDig (at48 l i) = true := by
  unfold at48
  rw [dif_neg h]
  rfl
def resD (l e : List UInt8) (i n : Nat) : Int × Bool := if (l.drop i).all isDig = true then (((dv n (e.drop i) : Nat) : Int), true) else (0, false)
theorem digLoop (l e : List UInt8) (F : Nat) (hE : ∀ i, (h : i < e.length) → e[i] = at48 l i) (hF : (F = 0 ∧ e.length = l.length) ∨ (F = e.length ∧ F ≠ 0)) (hel : e.length ≤ 15) (hll : l.length ≤ 100) :
    ∀ (d i n : Nat), max l.length F - i = d → n < 10 ^ min i e.length → Ev (fun k => mudlarkref04_digits.l0 k (tx l) (F : Int) (n : Int) (i : Int)) (resD l e i n) := by
  intro d
  induction d with
  | zero =>
    intro i n hd hn
    have h1 : ¬ i < l.length := by omega
    have h2 : ¬ i < F := by omega
    have e1 : resD l e i n = ((n : Int), true) := by
      unfold resD
      rw [List.drop_eq_nil_of_le (by omega), List.drop_eq_nil_of_le (show e.length ≤ i by omega), List.all_nil, if_pos rfl, dv_nil]
    rw [e1]
    refine Ev.step (f := fun k => mudlarkref04_digits.j2 k (tx l) (F : Int) (n : Int) (i : Int) false) (fun k => ?_) (Ev.step (f := fun _ => some ((n : Int), true)) (fun k => ?_) (Ev.now _))
    · simp only [mudlarkref04_digits.l0]
      rw [if_neg (by rw [tx_size]; omega), decide_eq_false (by omega)]
    · simp only [mudlarkref04_digits.j2]
      rw [if_neg (by simp)]
  | succ d ih =>
    intro i n hd hn
    have hcase : i < l.length ∨ i < F := by omega
    have hi : i ≤ 100 := by omega
    obtain ⟨c, hc⟩ : ∃ c, c = at48 l i := ⟨_, rfl⟩
    have s1 : ∀ k, mudlarkref04_digits.l0 (k + 1) (tx l) (F : Int) (n : Int) (i : Int) = mudlarkref04_digits.j2 k (tx l) (F : Int) (n : Int) (i : Int) true := fun k => by
      simp only [mudlarkref04_digits.l0]
      by_cases h : i < l.length
      · rw [if_pos (by rw [tx_size]; omega)]
      · rw [if_neg (by rw [tx_size]; omega), decide_eq_true (by omega)]
    have s2 : ∀ k, mudlarkref04_digits.j2 (k + 1) (tx l) (F : Int) (n : Int) (i : Int) true = mudlarkref04_digits.j3 k (tx l) (F : Int) (n : Int) (i : Int) (c.toNat : Int) := fun k => by
      simp only [mudlarkref04_digits.j2]
      rw [if_pos trivial]
      by_cases h : i < l.length
      · rw [if_pos (by rw [tx_size]; omega), if_pos (by omega), bt_tx l i h, hc]
        unfold at48
        rw [dif_pos h]
      · rw [if_neg (by rw [tx_size]; omega), hc]
        unfold at48
        rw [dif_neg h]
        rfl
    refine Ev.step s1 (Ev.step s2 ?_)
    by_cases hdg : isDig c = true
    · have hcr := (isDig_iff c).1 hdg
      have s3 : ∀ k, mudlarkref04_digits.j3 (k + 1) (tx l) (F : Int) (n : Int) (i : Int) (c.toNat : Int) = mudlarkref04_digits.j4 k (tx l) (F : Int) (n : Int) (i : Int) (c.toNat : Int) false := fun k => by
        simp only [mudlarkref04_digits.j3]
        rw [if_neg (by omega), decide_eq_false (by omega)]
      refine Ev.step s3 ?_
      have hall : (l.drop i).all isDig = (l.drop (i + 1)).all isDig := by
        by_cases h : i < l.length
        · rw [List.drop_eq_getElem_cons h, List.all_cons]
          have : l[i] = c := by rw [hc]; unfold at48; rw [dif_pos h]
          rw [this, hdg, Bool.true_and]
        · rw [List.drop_eq_nil_of_le (by omega), List.drop_eq_nil_of_le (by omega)]
      by_cases hin : i < e.length
      · have hn2 : n < 10 ^ i := by rw [Nat.min_eq_left (by omega)] at hn; exact hn
        have hp : 10 ^ i ≤ 10 ^ 14 := Nat.pow_le_pow_right (by omega) (by omega)
        have hnx : n * 10 + (c.toNat - 48) < 10 ^ min (i + 1) e.length := by
          rw [Nat.min_eq_left (by omega), Nat.pow_succ]
          omega
        have hr : resD l e i n = resD l e (i + 1) (n * 10 + (c.toNat - 48)) := by
          unfold resD
          rw [hall, List.drop_eq_getElem_cons hin, dv_cons, hE i hin, ← hc]
        rw [hr]
        refine Ev.step (fun k => ?_) (ih (i + 1) _ (by omega) hnx)
        have ew : wrap64 (wrap64 (wrap64 (10 * (n : Int)) + wrap64 (c.toNat : Int)) - 48) = ((n * 10 + (c.toNat - 48) : Nat) : Int) := by
          rw [wrap64_id (10 * (n : Int)) (by omega) (by omega), wrap64_id (c.toNat : Int) (by omega) (by omega), wrap64_id (10 * (n : Int) + (c.toNat : Int)) (by omega) (by omega), wrap64_id _ (by omega) (by omega)]
          omega
        simp only [mudlarkref04_digits.j4]
        rw [if_neg (by simp), ew, next_i i (by omega)]
        by_cases hF0 : (F : Int) = 0
        · rw [if_pos hF0]
        · rw [if_neg hF0, if_pos (by omega)]
      · have hFn : ¬ (F : Int) = 0 := by omega
        have hFi : ¬ (i : Int) < (F : Int) := by omega
        have hr : resD l e i n = resD l e (i + 1) n := by
          unfold resD
          rw [hall, List.drop_eq_nil_of_le (show e.length ≤ i by omega), List.drop_eq_nil_of_le (show e.length ≤ i + 1 by omega)]
        rw [hr]
        have hm : min (i + 1) e.length = min i e.length := by omega
        refine Ev.step (fun k => ?_) (ih (i + 1) n (by omega) (by rw [hm]; exact hn))
        simp only [mudlarkref04_digits.j4]
        rw [if_neg (by simp), if_neg hFn, if_neg hFi, next_i i (by omega)]
    · have hil : i < l.length := by
        by_cases h : i < l.length
        · exact h
        · exact absurd (by rw [hc]; exact at48_dig l i h) hdg
      have e1 : resD l e i n = (0, false) := by
        unfold resD
        rw [List.drop_eq_getElem_cons hil, List.all_cons]
        have : l[i] = c := by rw [hc]; unfold at48; rw [dif_pos hil]
        rw [this, Bool.eq_false_iff.2 hdg, Bool.false_and, if_neg (by simp)]
      rw [e1]
      have hcr : ¬ (48 ≤ c.toNat ∧ c.toNat ≤ 57) := fun hh => hdg ((isDig_iff c).2 hh)
      refine Ev.step (f := fun k => mudlarkref04_digits.j4 k (tx l) (F : Int) (n : Int) (i : Int) (c.toNat : Int) true) (fun k => ?_) (Ev.step (f := fun _ => some (0, false)) (fun k => ?_) (Ev.now _))
      · simp only [mudlarkref04_digits.j3]
        by_cases h48 : (c.toNat : Int) < 48
        · rw [if_pos h48]
        · rw [if_neg h48, decide_eq_true (by omega)]
      · simp only [mudlarkref04_digits.j4]
        rw [if_pos trivial]
theorem refDig_ev (l e : List UInt8) (F m : Nat) (hE : ∀ i, (h : i < e.length) → e[i] = at48 l i) (hF : (F = 0 ∧ e.length = l.length) ∨ (F = e.length ∧ F ≠ 0)) (hel : e.length ≤ 15 ∨ ¬ l.length ≤ m) (hll : l.length ≤ 100) :
    Ev (fun k => mudlarkref04_digits.f k (tx l) 1 (m : Int) (F : Int)) (if dsB l m = true then (((dv 0 e : Nat) : Int), true) else (0, false)) := by
  have hyes : Ev (fun k => mudlarkref04_digits.j0 k (tx l) (F : Int) true) (0, false) :=
    Ev.step (f := fun _ => some (0, false)) (fun k => by simp only [mudlarkref04_digits.j0]; rw [if_pos trivial]) (Ev.now _)
  by_cases h0 : l.length < 1
  · rw [if_neg (fun hh => ((dsB_iff l m).1 hh).2.1 (List.eq_nil_of_length_eq_zero (by omega)))]
    refine Ev.congr (fun k => ?_) hyes
    unfold mudlarkref04_digits.f
    rw [if_pos (by rw [tx_size]; omega)]
  · by_cases h1 : l.length ≤ m
    · have hd : dsB l m = l.all isDig := by
        unfold dsB
        rw [decide_eq_true (by omega), decide_eq_true h1, Bool.and_true, Bool.and_true]
      have h := digLoop l e F hE hF (hel.elim id (fun hh => absurd h1 hh)) hll _ 0 0 rfl (Nat.pow_pos (by omega))
      unfold resD at h
      rw [List.drop_zero, List.drop_zero, ← hd] at h
      refine Ev.congr (fun k => ?_) (Ev.step (g := fun k => mudlarkref04_digits.j0 k (tx l) (F : Int) false) (fun k => ?_) h)
      · unfold mudlarkref04_digits.f
        rw [if_neg (by rw [tx_size]; omega), decide_eq_false (by rw [tx_size]; omega)]
      · simp only [mudlarkref04_digits.j0]
        rw [if_neg (by simp)]
        rfl
    · rw [if_neg (fun hh => h1 ((dsB_iff l m).1 hh).2.2)]
      refine Ev.congr (fun k => ?_) hyes
      unfold mudlarkref04_digits.f
      rw [if_neg (by rw [tx_size]; omega), decide_eq_true (by rw [tx_size]; omega)]
theorem refDig15 (l : List UInt8) (hll : l.length ≤ 100) : Ev (fun k => mudlarkref04_digits.f k (tx l) 1 15 0) (if dsB l 15 = true then (((dv 0 l : Nat) : Int), true) else (0, false)) :=
  refDig_ev l l 0 15 (fun i h => by unfold at48; rw [dif_pos h]) (.inl ⟨rfl, rfl⟩) (by omega) hll
theorem nines_at (l : List UInt8) (i : Nat) (h : i < (nines l).length) : (nines l)[i] = at48 l i := by
  have h9 : i < 9 := by rw [nines_len] at h; exact h
  refine (List.getElem_eq_iff h).2 ?_
  unfold nines at48
  rw [List.getElem?_take, if_pos h9]
  by_cases hl : i < l.length
  · rw [dif_pos hl, List.getElem?_append_left hl, List.getElem?_eq_getElem hl]
  · rw [dif_neg hl, List.getElem?_append_right (by omega), List.getElem?_replicate, if_pos (by omega)]
theorem refDig18 (l : List UInt8) (hll : l.length ≤ 100) : Ev (fun k => mudlarkref04_digits.f k (tx l) 1 18 9) (if dsB l 18 = true then (((dv 0 (nines l) : Nat) : Int), true) else (0, false)) :=
  refDig_ev l (nines l) 9 18 (fun i h => nines_at l i h) (.inr ⟨(nines_len l).symm, by omega⟩) (.inl (by rw [nines_len]; omega)) hll

/-! ### Where the point is -/
def fd : List UInt8 → Nat
  | [] => 0
  | c :: t => if c = 46 then 0 else fd t + 1
theorem fd_le : ∀ l, fd l ≤ l.length
  | [] => Nat.le_refl _
  | c :: t => by
    unfold fd
    split
    · exact Nat.zero_le _
    · have := fd_le t
      rw [List.length_cons]; omega
theorem fd_no : ∀ l, NoDot l → fd l = l.length
  | [], _ => rfl
  | c :: t, h => by
    unfold fd
    rw [if_neg (h c (by simp)), fd_no t (fun x hx => h x (by simp [hx]))]
    rfl
theorem fd_at : ∀ p t, NoDot p → fd (p ++ 46 :: t) = p.length
  | [], t, _ => rfl
  | c :: p, t, h => by
    rw [List.cons_append]
    unfold fd
    rw [if_neg (h c (by simp)), fd_at p t (fun x hx => h x (by simp [hx]))]
    rfl
theorem cut_fd (l : List UInt8) : cutD l = (l.take (fd l), l.drop (fd l + 1), decide (fd l < l.length)) := by
  rcases dot_split l with h | ⟨p, t, h, e⟩
  · rw [cut_no l h, fd_no l h, List.take_of_length_le (Nat.le_refl _), List.drop_eq_nil_of_le (Nat.le_succ _), decide_eq_false (Nat.lt_irrefl _)]
  · rw [e, cut_at p t h, fd_at p t h, decide_eq_true (by rw [List.length_append, List.length_cons]; omega)]
    simp

theorem ref_j3 (n : Bool) (s f : Nat) (o1 o2 : Bool) (hs : s < 1000000000000000) (hf : f < 1000000000) :
    Ev (fun k => mudlarkref04_Parse.j3 k n (s : Int) o1 (f : Int) o2) (if o1 = true ∧ o2 = true then fin n s f else (0, 0, false)) := by
  have hno : Ev (fun k => mudlarkref04_Parse.j4 k n (s : Int) (f : Int) true) (0, 0, false) :=
    Ev.step (f := fun _ => some (0, 0, false)) (fun k => by simp only [mudlarkref04_Parse.j4]; rw [if_pos trivial]) (Ev.now _)
  have hyes : Ev (fun k => mudlarkref04_Parse.j4 k n (s : Int) (f : Int) false) (fin n s f) := by
    refine Ev.step (f := fun _ => some (fin n s f)) (fun k => ?_) (Ev.now _)
    simp only [mudlarkref04_Parse.j4]
    rw [if_neg (by simp)]
    unfold fin
    by_cases c1 : n = true
    · rw [if_pos c1, if_pos c1]
      by_cases c2 : f > 0
      · rw [if_neg (by omega), if_pos c2, wrap64_id (-(s : Int)) (by omega) (by omega), wrap64_id _ (by omega) (by omega), wrap64_id _ (by omega) (by omega)]
      · rw [if_pos (by omega), if_neg c2, wrap64_id _ (by omega) (by omega), show (f : Int) = 0 by omega]
    · rw [if_neg c1, if_neg c1]
  cases o1 with
  | true =>
    cases o2 with
    | true =>
      rw [if_pos ⟨rfl, rfl⟩]
      exact Ev.step (fun k => by simp only [mudlarkref04_Parse.j3]; rw [if_pos trivial]; rfl) hyes
    | false =>
      rw [if_neg (by simp)]
      exact Ev.step (fun k => by simp only [mudlarkref04_Parse.j3]; rw [if_pos trivial]; rfl) hno
  | false =>
    rw [if_neg (by simp)]
    exact Ev.step (fun k => by simp only [mudlarkref04_Parse.j3]; rw [if_neg (by simp)]) hno
def tailP (n : Bool) (t : List UInt8) : Int × Int × Bool :=
  if dsB (cutD t).1 15 = true ∧ ((cutD t).2.2 = true → dsB (cutD t).2.1 18 = true) then fin n (dv 0 (cutD t).1) (dv 0 (nines (cutD t).2.1)) else (0, 0, false)
theorem dv15 (l : List UInt8) (h : dsB l 15 = true) : dv 0 l < 1000000000000000 := by
  obtain ⟨h1, h2, h3⟩ := (dsB_iff l 15).1 h
  exact Nat.lt_of_lt_of_le (dv_lt l h1) (Nat.le_trans (Nat.pow_le_pow_right (by omega) h3) (by decide))
theorem dv18 (l : List UInt8) (h : dsB l 18 = true) : dv 0 (nines l) < 1000000000 := by
  obtain ⟨h1, h2, h3⟩ := (dsB_iff l 18).1 h
  have := dv_lt _ (nines_dig l h1)
  rw [nines_len] at this
  exact this
theorem pointLoop (t : List UInt8) (n : Bool) (hl : t.length ≤ 100) : ∀ m, m ≤ t.length → Ev (fun k => mudlarkref04_Parse.l0 k (tx t) n ((m + fd (t.drop m) : Nat) : Int) ((m : Int) - 1)) (tailP n t)
  | 0, _ => by
    have hfl := fd_le t
    rw [List.drop_zero, Nat.zero_add]
    unfold tailP
    rw [cut_fd t]
    simp only
    have e1 : (tx t).extract 0 ((fd t : Nat) : Int).toNat = tx (t.take (fd t)) := by rw [tx_cut, Int.toNat_natCast, List.drop_zero]
    refine Ev.step (f := fun k => (mudlarkref04_digits.f k (tx (t.take (fd t))) 1 15 0).bind fun bt203 => (if ((fd t : Nat) : Int) < ((tx t).size : Int) then (if 0 ≤ (wrap64 (((fd t : Nat) : Int) + 1)) then (if (wrap64 (((fd t : Nat) : Int) + 1)) ≤ ((tx t).size : Int) then ((mudlarkref04_digits.f k ((tx t).extract ((wrap64 (((fd t : Nat) : Int) + 1)) : Int).toNat (tx t).size) 1 18 9).bind fun bt205 => (mudlarkref04_Parse.j3 k n bt203.1 bt203.2 bt205.1 bt205.2)) else (none)) else (none)) else (mudlarkref04_Parse.j3 k n bt203.1 bt203.2 0 true))) (fun k => ?_) ?_
    · simp only [mudlarkref04_Parse.l0]
      rw [if_neg (by omega), if_pos (by omega), if_pos (by rw [tx_size]; omega), e1]
    · have hA := refDig15 (t.take (fd t)) (by rw [List.length_take]; omega)
      refine Ev.bind hA ?_
      have hs1 : dsB (t.take (fd t)) 15 = true → dv 0 (t.take (fd t)) < 1000000000000000 := dv15 _
      generalize dsB (t.take (fd t)) 15 = b1 at *
      generalize dv 0 (t.take (fd t)) = v1 at *
      have hX : (if b1 = true then ((v1 : Int), true) else ((0 : Int), false)) = (((if b1 = true then v1 else 0 : Nat) : Int), b1) := by cases b1 <;> rfl
      rw [hX]
      by_cases c : fd t < t.length
      · have hw : wrap64 (((fd t : Nat) : Int) + 1) = ((fd t + 1 : Nat) : Int) := next_i _ (by omega)
        have e2 : (tx t).extract ((fd t + 1 : Nat) : Int).toNat (tx t).size = tx (t.drop (fd t + 1)) := by rw [tx_cut, Int.toNat_natCast, tx_size, List.take_of_length_le (Nat.le_refl _)]
        have hB := refDig18 (t.drop (fd t + 1)) (by rw [List.length_drop]; omega)
        have hs2 : dsB (t.drop (fd t + 1)) 18 = true → dv 0 (nines (t.drop (fd t + 1))) < 1000000000 := dv18 _
        rw [hw, e2, decide_eq_true c]
        generalize dsB (t.drop (fd t + 1)) 18 = b2 at *
        generalize dv 0 (nines (t.drop (fd t + 1))) = v2 at *
        have hY : (if b2 = true then ((v2 : Int), true) else ((0 : Int), false)) = (((if b2 = true then v2 else 0 : Nat) : Int), b2) := by cases b2 <;> rfl
        rw [hY] at hB
        refine Ev.congr (f := fun k => (mudlarkref04_digits.f k (tx (t.drop (fd t + 1))) 1 18 9).bind fun bt205 => mudlarkref04_Parse.j3 k n (((if b1 = true then v1 else 0 : Nat) : Int)) b1 bt205.1 bt205.2) (fun k => ?_) (Ev.bind hB ?_)
        · rw [if_pos (by rw [tx_size]; omega), if_pos (by omega), if_pos (by rw [tx_size]; omega)]
        · have h3 := ref_j3 n (if b1 = true then v1 else 0) (if b2 = true then v2 else 0) b1 b2 (by cases b1 <;> simp at hs1 ⊢; exact hs1) (by cases b2 <;> simp at hs2 ⊢; exact hs2)
          cases b1 <;> cases b2 <;> simpa using h3
      · have h0 : t.drop (fd t + 1) = [] := List.drop_eq_nil_of_le (by omega)
        rw [h0, decide_eq_false c]
        have hz : dv 0 (nines []) = 0 := by
          unfold nines
          rw [List.nil_append, List.take_replicate, dv_nul, Nat.zero_mul]
        rw [hz]
        refine Ev.congr (f := fun k => mudlarkref04_Parse.j3 k n (((if b1 = true then v1 else 0 : Nat) : Int)) b1 ((0 : Nat) : Int) true) (fun k => ?_) ?_
        · rw [if_neg (by rw [tx_size]; omega)]
          rfl
        · have h3 := ref_j3 n (if b1 = true then v1 else 0) 0 b1 true (by cases b1 <;> simp at hs1 ⊢; exact hs1) (by omega)
          cases b1 <;> simpa using h3
  | m + 1, hm => by
    have hi : m < t.length := by omega
    have hd : t.drop m = t[m] :: t.drop (m + 1) := List.drop_eq_getElem_cons hi
    have ih := pointLoop t n hl m (by omega)
    have hfl := fd_le (t.drop (m + 1))
    rw [List.length_drop] at hfl
    refine Ev.step (fun k => ?_) ih
    simp only [mudlarkref04_Parse.l0]
    have hmm : (((m + 1 : Nat) : Int) - 1) = (m : Int) := by omega
    rw [hmm, if_pos (by omega), if_pos (by omega), if_pos (by rw [tx_size]; omega), bt_tx t m hi, wrap64_id ((m : Int) - 1) (by omega) (by omega), hd, show fd (t[m] :: t.drop (m + 1)) = if t[m] = 46 then 0 else fd (t.drop (m + 1)) + 1 from rfl]
    by_cases c : t[m] = 46
    · rw [if_pos (by rw [c]; rfl), if_pos c]
      rfl
    · rw [if_neg (fun e => c (UInt8.toNat_inj.1 (by have : ((46 : UInt8).toNat : Int) = 46 := rfl; omega))), if_neg c]
      congr 1
      omega
theorem RefParse_ev (l : List UInt8) (hl : l.length ≤ 100) : Ev (fun k => mudlarkref04_Parse.f k (tx l)) (parseT l) := by
  have hgo : ∀ (n : Bool) (t : List UInt8), t.length ≤ 100 → Ev (fun k => mudlarkref04_Parse.j1 k (tx t) n) (tailP n t) := fun n t ht => by
    have h := pointLoop t n ht t.length (Nat.le_refl _)
    rw [List.drop_eq_nil_of_le (Nat.le_refl _)] at h
    refine Ev.step (fun k => ?_) h
    simp only [mudlarkref04_Parse.j1]
    rw [tx_size, wrap64_id _ (by omega) (by omega)]
    rfl
  have hp : parseT l = tailP (unsig l).1 (unsig l).2 := rfl
  rw [hp]
  cases l with
  | nil =>
    refine Ev.congr (fun k => ?_) (Ev.step (g := fun k => mudlarkref04_Parse.j0 k (tx []) false) (fun k => ?_) (hgo false [] (by simp)))
    · unfold mudlarkref04_Parse.f
      rw [if_neg (by rw [tx_size]; simp)]
    · simp only [mudlarkref04_Parse.j0]
      rw [if_neg (by simp)]
  | cons c t =>
    have hb : bt (tx (c :: t)) 0 = (c.toNat : Int) := bt_tx (c :: t) 0 (by simp)
    have hf : ∀ k, mudlarkref04_Parse.f k (tx (c :: t)) = mudlarkref04_Parse.j0 k (tx (c :: t)) ((c.toNat : Int) == 45) := fun k => by
      unfold mudlarkref04_Parse.f
      rw [if_pos (by rw [tx_size, List.length_cons]; omega), if_pos (by rw [tx_size, List.length_cons]; omega), hb]
    refine Ev.congr hf ?_
    rw [List.length_cons] at hl
    by_cases h : c = 45
    · subst h
      have e1 : unsig (45 :: t) = (true, t) := rfl
      rw [e1]
      refine Ev.step (fun k => ?_) (hgo true t (by omega))
      have e2 : (((45 : UInt8).toNat : Int) == 45) = true := rfl
      rw [e2]
      simp only [mudlarkref04_Parse.j0]
      rw [if_pos trivial, if_pos (by rw [tx_size, List.length_cons]; omega), tx_cut, tx_size, List.take_of_length_le (Nat.le_refl _)]
      rfl
    · have e1 : unsig (c :: t) = (false, c :: t) := by
        show (if c = 45 then (true, t) else (false, c :: t)) = _
        rw [if_neg h]
      have e2 : ((c.toNat : Int) == 45) = false := beq_eq_false_iff_ne.2 (fun e => h (UInt8.toNat_inj.1 (by have : ((45 : UInt8).toNat : Int) = 45 := rfl; omega)))
      rw [e1, e2]
      refine Ev.step (fun k => ?_) (hgo false (c :: t) (by rw [List.length_cons]; omega))
      simp only [mudlarkref04_Parse.j0]
      rw [if_neg (by simp)]
end Go.Proofs.YtalfgbdmenccnaaDoor.P
