/- What is parsed of a text, and what is printed of a time: as lists of bytes. No conditions. -/
import Derived.Test.YtalfgbdmenccnaaDoorPx2
import Derived.Lib.IndexLaws
namespace Go.Proofs.YtalfgbdmenccnaaDoor.P
open Go Go.RowKit Go.Shelf Go.Lib Go.Proofs.YtalfgbdmenccnaaDoorW.PrintWords Go.Proofs.YtalfgbdmenccnaaDoorW.PrintLast Go.Proofs.YtalfgbdmenccnaaDoorW.PrintMore
set_option linter.unusedVariables false
set_option linter.unusedSimpArgs false

theorem wrap64_id (x : Int) (h0 : -9223372036854775808 ≤ x) (h1 : x ≤ 9223372036854775807) : wrap64 x = x := by
  unfold wrap64; omega
theorem next_i (i : Nat) (h : i < 9223372036854775807) : wrap64 ((i : Int) + 1) = ((i + 1 : Nat) : Int) := by rw [wrap64_id _ (by omega) (by omega)]; push_cast; rfl
/-! ### Texts as lists -/
theorem tx_data (x : ByteArray) : tx x.data.toList = x := by cases x; rfl
theorem data_tx (l : List UInt8) : (tx l).data.toList = l := rfl
theorem tx_size (l : List UInt8) : (tx l).size = l.length := List.size_toArray
theorem tx_app (a b : List UInt8) : tx a ++ tx b = tx (a ++ b) := by
  rw [← tx_data (tx a ++ tx b), ByteArray.data_append, Array.toList_append]
  rfl
theorem tx_cut (l : List UInt8) (a b : Nat) : (tx l).extract a b = tx ((l.take b).drop a) := by
  rw [← tx_data ((tx l).extract a b), ByteArray.data_extract, Array.toList_extract]
  simp [List.extract_eq_take_drop, List.drop_take, tx]
theorem tx_toList (l : List UInt8) : (tx l).toList = l := by rw [Lib.toList_data]; rfl
theorem bt_tx (l : List UInt8) (i : Nat) (h : i < l.length) : bt (tx l) (i : Int) = ((l[i]).toNat : Int) := by
  unfold bt
  rw [dif_pos (show (i : Int).toNat < (tx l).size by rw [Int.toNat_natCast, tx_size]; exact h)]
  rfl
/-! ### Digits and their value -/
def dv (acc : Nat) (l : List UInt8) : Nat := l.foldl (fun a b => a * 10 + (b.toNat - 48)) acc
theorem dv_nil (acc : Nat) : dv acc [] = acc := rfl
theorem dv_cons (acc : Nat) (b : UInt8) (r : List UInt8) : dv acc (b :: r) = dv (acc * 10 + (b.toNat - 48)) r := by
  unfold dv
  rw [List.foldl_cons]
theorem isDig_iff (b : UInt8) : isDig b = true ↔ 48 ≤ b.toNat ∧ b.toNat ≤ 57 := by unfold isDig; exact decide_eq_true_iff
theorem decFrom_dv : ∀ (l : List UInt8) (acc : Nat), l.all isDig = true → Lib.decFrom acc l = some (dv acc l)
  | [], _, _ => rfl
  | b :: r, acc, h => by
    rw [List.all_cons, Bool.and_eq_true] at h
    have hb := (isDig_iff b).1 h.1
    have hd : Lib.digitVal b = some (b.toNat - 48) := by unfold Lib.digitVal; rw [if_pos hb]
    rw [dv_cons]
    simp only [Lib.decFrom, hd]
    exact decFrom_dv r _ h.2
theorem dv_app : ∀ (a b : List UInt8) (acc : Nat), dv acc (a ++ b) = dv (dv acc a) b
  | [], _, _ => rfl
  | c :: a, b, acc => by rw [List.cons_append, dv_cons, dv_cons]; exact dv_app a b _
theorem dv_acc : ∀ (l : List UInt8) (acc : Nat), dv acc l = acc * 10 ^ l.length + dv 0 l
  | [], acc => by rw [dv_nil, dv_nil]; simp
  | c :: l, acc => by
    have h1 := dv_acc l (acc * 10 + (c.toNat - 48))
    have h2 := dv_acc l (0 * 10 + (c.toNat - 48))
    rw [dv_cons, dv_cons, h1, h2, List.length_cons, Nat.pow_succ, Nat.add_mul, Nat.add_mul, Nat.mul_assoc, Nat.mul_comm 10 (10 ^ l.length)]
    omega
theorem dv_lt (l : List UInt8) (h : l.all isDig = true) : dv 0 l < 10 ^ l.length := by
  have := Lib.decFrom_lt l 0 _ (decFrom_dv l 0 h)
  simpa using this
theorem dv_nul : ∀ (k acc : Nat), dv acc (List.replicate k 48) = acc * 10 ^ k
  | 0, acc => by rw [List.replicate_zero, dv_nil]; simp
  | k + 1, acc => by
    rw [List.replicate_succ]
    rw [dv_cons, show (48 : UInt8).toNat - 48 = 0 from rfl, Nat.add_zero, dv_nul k, Nat.pow_succ, Nat.mul_assoc, Nat.mul_comm 10]
theorem nul_dig (k : Nat) : (List.replicate k (48 : UInt8)).all isDig = true := by
  rw [List.all_eq_true]
  intro x hx
  rw [List.eq_of_mem_replicate hx]
  rfl
def dsB (l : List UInt8) (m : Nat) : Bool := l.all isDig && (decide (l.length ≠ 0) && decide (l.length ≤ m))
theorem dsB_iff (l : List UInt8) (m : Nat) : dsB l m = true ↔ l.all isDig = true ∧ l ≠ [] ∧ l.length ≤ m := by
  unfold dsB
  rw [Bool.and_eq_true, Bool.and_eq_true, decide_eq_true_iff, decide_eq_true_iff]
  constructor
  · rintro ⟨h1, h2, h3⟩
    exact ⟨h1, fun e => h2 (by rw [e]; rfl), h3⟩
  · rintro ⟨h1, h2, h3⟩
    exact ⟨h1, fun e => h2 (List.eq_nil_of_length_eq_zero e), h3⟩
theorem digits_eq (l : List UInt8) (m : Nat) : stamp_digits.f (tx l) (m : Int) = some (dsB l m) := by
  unfold stamp_digits.f dsB digsB
  rw [tx_size, data_tx]
  congr 3
  by_cases h : l.length ≤ m
  · rw [decide_eq_true h, decide_eq_true (by omega)]
  · rw [decide_eq_false h, decide_eq_false (by omega)]
theorem atoi_dv (l : List UInt8) (h : l.all isDig = true) (hne : l ≠ []) : Lib.atoi l = some ((dv 0 l : Nat) : Int) := by
  cases l with
  | nil => exact absurd rfl hne
  | cons b r =>
    have hb := (isDig_iff b).1 (by rw [List.all_cons, Bool.and_eq_true] at h; exact h.1)
    have n1 : (b == 45) = false := beq_eq_false_iff_ne.2 (fun e => by subst e; revert hb; decide)
    have n2 : (b == 43) = false := beq_eq_false_iff_ne.2 (fun e => by subst e; revert hb; decide)
    unfold Lib.atoi
    simp only
    rw [n1, n2]
    have e : Lib.decNat (b :: r) = some (dv 0 (b :: r)) := by
      unfold Lib.decNat
      rw [if_neg (by simp)]
      exact decFrom_dv _ 0 h
    simp only [e, Bool.false_eq_true, if_false, Option.map_some]
theorem Atoi_eq (l : List UInt8) (h : l.all isDig = true) (hne : l ≠ []) (hl : l.length ≤ 18) : strconv_Atoi_23.f (tx l) = some (((dv 0 l : Nat) : Int), none) := by
  unfold strconv_Atoi_23.f
  rw [if_pos (by rw [tx_size]; exact hl), data_tx, atoi_dv l h hne]
  rfl
/-! ### The digits of a number -/
theorem dg_nat (u : Nat) (h : u < 10) : (UInt8.ofNat (48 + u)).toNat = 48 + u := by
  rw [UInt8.toNat_ofNat']
  omega
theorem dd_all (u : Nat) : (Lib.decDigits u).all isDig = true := by
  induction u using Nat.strongRecOn with
  | _ u ih =>
    rw [Lib.decDigits]
    by_cases h : u < 10
    · rw [dif_pos h, List.all_cons, List.all_nil, Bool.and_true, isDig_iff, dg_nat u h]
      omega
    · rw [dif_neg h, List.all_append, ih (u / 10) (by omega), Bool.true_and, List.all_cons, List.all_nil, Bool.and_true, isDig_iff, dg_nat _ (by omega)]
      omega
theorem dd_val (u : Nat) : dv 0 (Lib.decDigits u) = u := by
  induction u using Nat.strongRecOn with
  | _ u ih =>
    rw [Lib.decDigits]
    by_cases h : u < 10
    · rw [dif_pos h]
      rw [dv_cons, dv_nil, dg_nat u h]
      omega
    · rw [dif_neg h, dv_app, ih (u / 10) (by omega)]
      rw [dv_cons, dv_nil, dg_nat _ (by omega)]
      omega
theorem dd_ne (u : Nat) : Lib.decDigits u ≠ [] := by
  rw [Lib.decDigits]
  by_cases h : u < 10
  · rw [dif_pos h]; simp
  · rw [dif_neg h]; simp
theorem dd_le : ∀ (k u : Nat), u < 10 ^ (k + 1) → (Lib.decDigits u).length ≤ k + 1
  | 0, u, h => by
    rw [Lib.decDigits, dif_pos (by simpa using h)]
    simp
  | k + 1, u, h => by
    rw [Lib.decDigits]
    by_cases h1 : u < 10
    · rw [dif_pos h1]; simp
    · rw [dif_neg h1, List.length_append]
      have := dd_le k (u / 10) (by rw [Nat.pow_succ] at h; omega)
      simp only [List.length_cons, List.length_nil]
      omega
theorem dd_ge (u k : Nat) (h : 10 ^ k ≤ u) : k + 1 ≤ (Lib.decDigits u).length := by
  have h1 := dv_lt _ (dd_all u)
  rw [dd_val u] at h1
  have h2 : 10 ^ k < 10 ^ (Lib.decDigits u).length := Nat.lt_of_le_of_lt h h1
  have := (Nat.pow_lt_pow_iff_right (show 1 < 10 by omega)).1 h2
  omega
theorem ten (n : Nat) (hn : n < 1000000000) : ∃ c t, Lib.decDigits (1000000000 + n) = c :: t ∧ t.length = 9 ∧ t.all isDig = true ∧ dv 0 t = n := by
  have h1 := dd_le 9 (1000000000 + n) (by omega)
  have h2 := dd_ge (1000000000 + n) 9 (by omega)
  have h3 := dd_all (1000000000 + n)
  have h4 := dd_val (1000000000 + n)
  cases hl : Lib.decDigits (1000000000 + n) with
  | nil => exact absurd hl (dd_ne _)
  | cons c t =>
    rw [hl] at h1 h2 h3 h4
    rw [List.all_cons, Bool.and_eq_true] at h3
    have hc := (isDig_iff c).1 h3.1
    have ht : t.length = 9 := by simp only [List.length_cons] at h1 h2; omega
    have h5 := h4
    rw [dv_cons] at h5
    have h6 := dv_lt t h3.2
    rw [dv_acc, ht] at h5
    rw [ht] at h6
    exact ⟨c, t, rfl, ht, h3.2, by omega⟩
/-! ### Noughts behind -/
theorem trim_back (t : List UInt8) : ∃ k, t = Lib.trimRightB t 48 ++ List.replicate k 48 := by
  refine ⟨(t.reverse.takeWhile (· == 48)).length, ?_⟩
  have h := List.takeWhile_append_dropWhile (p := (· == (48 : UInt8))) (l := t.reverse)
  have h2 := congrArg List.reverse h
  rw [List.reverse_append, List.reverse_reverse] at h2
  have h3 : (t.reverse.takeWhile (· == 48)).reverse = List.replicate (t.reverse.takeWhile (· == 48)).length 48 := by
    rw [List.eq_replicate_iff]
    refine ⟨List.length_reverse, fun x hx => ?_⟩
    have := List.all_takeWhile (p := (· == (48 : UInt8))) (l := t.reverse)
    rw [List.all_eq_true] at this
    exact eq_of_beq (this x (List.mem_reverse.1 hx))
  rw [h3] at h2
  exact h2.symm
theorem trim_last (t : List UInt8) (x : UInt8) (d : List UInt8) (h : Lib.trimRightB t 48 = d ++ [x]) : x ≠ 48 := by
  unfold Lib.trimRightB at h
  have h2 := congrArg List.reverse h
  rw [List.reverse_reverse, List.reverse_append] at h2
  intro e
  subst e
  have h3 : t.reverse.dropWhile (· == 48) ≠ [] := by rw [h2]; simp
  have h4 := List.head_dropWhile_not (· == (48 : UInt8)) h3
  have h5 : (t.reverse.dropWhile (· == 48)).head h3 = 48 := by simp only [h2]; rfl
  rw [h5] at h4
  revert h4
  decide
end Go.Proofs.YtalfgbdmenccnaaDoor.P
