/- Decimal numerals. No conditions. Texts of parts: what sparse.Parse and the reference come to, in lists and numbers. No conditions. -/
import Derived.Test.YtlnbkmlidmgbaaaDoorHStdE
import Derived.Test.YtlnbkmlidmgbaaaDoorHSpP
import Derived.Test.YtlnbkmlidmgbaaaDoorHSParse
import Derived.Test.YtlnbkmlidmgbaaaDoorPx2
import Derived.Test.YtlnbkmlidmgbaaaDoorPx4
import Derived.Test.YtlnbkmlidmgbaaaDoorPx5
import Derived.Test.YtlnbkmlidmgbaaaDoorPx6
import Derived.Lib.AtoiTie
import Derived.Lib.ItoaLen
import Derived.Lib.AtoiAllCases
section
namespace Go.Proofs.YtlnbkmlidmgbaaaDoor.P
open Go.RowKit Go.Shelf Go.Lib Go.Proofs.YtlnbkmlidmgbaaaDoorW.PrintWords Go.Proofs.YtlnbkmlidmgbaaaDoorW.PrintLast Go.Proofs.YtlnbkmlidmgbaaaDoorW.PrintMore
set_option linter.unusedVariables false
set_option linter.unusedSimpArgs false

/-- Is the byte a digit? -/
def isDig (b : UInt8) : Bool := decide (48 ≤ b.toNat ∧ b.toNat ≤ 57)
theorem isDig_iff (b : UInt8) : isDig b = true ↔ 48 ≤ b.toNat ∧ b.toNat ≤ 57 := by unfold isDig; exact decide_eq_true_iff
def dv (acc : Nat) (l : List UInt8) : Nat := l.foldl (fun a b => a * 10 + (b.toNat - 48)) acc
theorem dv_nil (acc : Nat) : dv acc [] = acc := rfl
theorem dv_cons (acc : Nat) (b : UInt8) (r : List UInt8) : dv acc (b :: r) = dv (acc * 10 + (b.toNat - 48)) r := by
  unfold dv
  rw [List.foldl_cons]
theorem decFrom_dv : ∀ (l : List UInt8) (acc : Nat), l.all isDig = true → Lib.decFrom acc l = some (dv acc l)
  | [], _, _ => rfl
  | b :: r, acc, h => by
    rw [List.all_cons, Bool.and_eq_true] at h
    have hb := (isDig_iff b).1 h.1
    have hd : Lib.digitVal b = some (b.toNat - 48) := by unfold Lib.digitVal; rw [if_pos hb]
    rw [dv_cons]
    simp only [Lib.decFrom, hd]
    exact decFrom_dv r _ h.2
theorem dv_app : ∀ (a b : List UInt8) (acc : Nat), dv acc (a ++ b) = dv (dv acc a) b
  | [], _, _ => rfl
  | c :: a, b, acc => by rw [List.cons_append, dv_cons, dv_cons]; exact dv_app a b _
theorem dg_nat (u : Nat) (h : u < 10) : (UInt8.ofNat (48 + u)).toNat = 48 + u := by
  rw [UInt8.toNat_ofNat']
  omega
theorem dd_all (u : Nat) : (Lib.decDigits u).all isDig = true := by
  induction u using Nat.strongRecOn with
  | _ u ih =>
    rw [Lib.decDigits]
    by_cases h : u < 10
    · rw [dif_pos h, List.all_cons, List.all_nil, Bool.and_true, isDig_iff, dg_nat u h]
      omega
    · rw [dif_neg h, List.all_append, ih (u / 10) (by omega), Bool.true_and, List.all_cons, List.all_nil, Bool.and_true, isDig_iff, dg_nat _ (by omega)]
      omega
theorem dd_val (u : Nat) : dv 0 (Lib.decDigits u) = u := by
  induction u using Nat.strongRecOn with
  | _ u ih =>
    rw [Lib.decDigits]
    by_cases h : u < 10
    · rw [dif_pos h]
      rw [dv_cons, dv_nil, dg_nat u h]
      omega
    · rw [dif_neg h, dv_app, ih (u / 10) (by omega)]
      rw [dv_cons, dv_nil, dg_nat _ (by omega)]
      omega
theorem dd_ne (u : Nat) : Lib.decDigits u ≠ [] := by
  rw [Lib.decDigits]
  by_cases h : u < 10
  · rw [dif_pos h]; simp
  · rw [dif_neg h]; simp
theorem dd_le : ∀ (k u : Nat), u < 10 ^ (k + 1) → (Lib.decDigits u).length ≤ k + 1
  | 0, u, h => by
    rw [Lib.decDigits, dif_pos (by simpa using h)]
    simp
  | k + 1, u, h => by
    rw [Lib.decDigits]
    by_cases h1 : u < 10
    · rw [dif_pos h1]; simp
    · rw [dif_neg h1, List.length_append]
      have := dd_le k (u / 10) (by rw [Nat.pow_succ] at h; omega)
      simp only [List.length_cons, List.length_nil]
      omega
theorem atoi_dd (n : Nat) : Lib.atoi (Lib.decDigits n) = some (n : Int) := by
  have ha := dd_all n
  have hv := dd_val n
  have hd := decFrom_dv (Lib.decDigits n) 0 ha
  cases hl : Lib.decDigits n with
  | nil => exact (dd_ne n hl).elim
  | cons b r =>
    rw [hl] at ha hv hd
    have hb := (isDig_iff b).1 (List.all_eq_true.1 ha b (by simp))
    have h45 : (b == 45) = false := beq_eq_false_iff_ne.2 (fun e => by subst e; have : (45 : UInt8).toNat = 45 := rfl; omega)
    have h43 : (b == 43) = false := beq_eq_false_iff_ne.2 (fun e => by subst e; have : (43 : UInt8).toNat = 43 := rfl; omega)
    show (if (b == 45) = true then (Lib.decNat r).map (fun (m : Nat) => -(m : Int)) else if (b == 43) = true then (Lib.decNat r).map (fun (m : Nat) => (m : Int)) else (Lib.decNat (b :: r)).map (fun (m : Nat) => (m : Int))) = some (n : Int)
    rw [h45, h43, if_neg (by simp), if_neg (by simp)]
    unfold Lib.decNat
    rw [hd, hv]
    rfl
end Go.Proofs.YtlnbkmlidmgbaaaDoor.P
end

section
namespace Go.Proofs.YtlnbkmlidmgbaaaDoor.P
open Go.RowKit Go.Shelf Go.Lib Go.Proofs.YtlnbkmlidmgbaaaDoorW.PrintWords Go.Proofs.YtlnbkmlidmgbaaaDoorW.PrintLast Go.Proofs.YtlnbkmlidmgbaaaDoorW.PrintMore
set_option linter.unusedVariables false
set_option linter.unusedSimpArgs false

theorem data_tx' (l : List UInt8) : (tx l).data.toList = l := rfl
theorem txl (l : List UInt8) : (tx l).toList = l := by rw [Lib.toList_data]; rfl
/-- The number that Atoi hands back. -/
def nN (x : ByteArray) : Int := (atoiV x.data.toList).1
def okR (x : ByteArray) : Bool := decide ((x.size : Int) ≤ 13) && (decide (0 ≤ nN x) && ((tx (Lib.itoa (nN x))).toList == x.toList))
theorem nN_range (x : ByteArray) : -9223372036854775808 ≤ nN x ∧ nN x ≤ 9223372036854775807 := by
  unfold nN atoiV
  cases h : Lib.atoiAll x.data.toList with
  | ok v => exact Lib.atoiAll_bounds h
  | «syntax» => show -9223372036854775808 ≤ (0 : Int) ∧ (0 : Int) ≤ 9223372036854775807; omega
  | range => exact Lib.atoiSat_bounds _
theorem Atoi_f (x : ByteArray) (h : x.size ≤ 281474976710656) : strconv_Atoi_45.f x = some (atoiV x.data.toList) := by
  unfold strconv_Atoi_45.f
  rw [if_pos h]
theorem Itoa_f (n : Int) (h : -9223372036854775808 ≤ n ∧ n ≤ 9223372036854775807) : strconv_Itoa_34.f n = some (tx (Lib.itoa n)) := by
  unfold strconv_Itoa_34.f
  rw [if_pos h]
theorem ok_parts {x : ByteArray} (h : okR x = true) : (x.size : Int) ≤ 13 ∧ 0 ≤ nN x ∧ (tx (Lib.itoa (nN x))).toList = x.toList := by
  unfold okR at h
  rw [Bool.and_eq_true, Bool.and_eq_true, decide_eq_true_eq, decide_eq_true_eq, beq_iff_eq] at h
  exact h
theorem ok_atoi {x : ByteArray} (h : okR x = true) : (atoiV x.data.toList).2 = none := by
  obtain ⟨h1, h2, h3⟩ := ok_parts h
  rw [txl, Lib.toList_data] at h3
  obtain ⟨u, hu⟩ : ∃ u : Nat, nN x = u := ⟨(nN x).toNat, by omega⟩
  rw [hu, Lib.itoa_nonneg] at h3
  have hl : x.data.toList.length ≤ 18 := by
    have := Lib.size_eq x
    omega
  have ha : Lib.atoiAll x.data.toList = .ok (u : Int) := by
    rw [Lib.atoiAll_short _ hl, ← h3, atoi_dd]
    rfl
  unfold atoiV
  rw [ha]
theorem number_f (x : ByteArray) (h : x.size ≤ 281474976710656) : sparse_number.f x = some (nN x, okR x) := by
  unfold sparse_number.f
  rw [Atoi_f x h, Option.bind_some]
  have hn : (atoiV x.data.toList).1 = nN x := rfl
  rw [hn]
  by_cases c0 : (atoiV x.data.toList).2.isNone = true
  · rw [if_pos c0]
    by_cases c1 : (x.size : Int) ≤ 13
    · rw [if_pos c1]
      by_cases c2 : nN x ≥ 0
      · rw [if_pos c2, Itoa_f _ (nN_range x), Option.bind_some]
        unfold okR
        rw [decide_eq_true c1, decide_eq_true (show 0 ≤ nN x from c2), Bool.true_and, Bool.true_and]
      · rw [if_neg c2]
        unfold okR
        rw [decide_eq_false (show ¬ 0 ≤ nN x from c2), Bool.false_and, Bool.and_false]
    · rw [if_neg c1]
      unfold okR
      rw [decide_eq_false c1, Bool.false_and]
  · rw [if_neg c0]
    have : okR x = false := by
      cases hq : okR x with
      | false => rfl
      | true => rw [ok_atoi hq] at c0; exact absurd rfl c0
    rw [this]
/-! ### The reference's numbers -/
def goR : List ByteArray → List Int → List Int × Bool
  | [], out => (out, true)
  | x :: xs, out => if okR x = true then goR xs (out ++ [nN x]) else ([], false)
theorem splitC_app : ∀ (p r : List UInt8), (∀ c ∈ p, c ≠ 44) → splitC (p ++ 44 :: r) = p :: splitC r
  | [], r, _ => by
    conv => lhs; rw [List.nil_append]; unfold splitC
    rw [if_pos rfl]
  | c :: p, r, h => by
    have ih := splitC_app p r (fun d hd => h d (List.mem_cons_of_mem _ hd))
    conv => lhs; rw [List.cons_append]; unfold splitC
    rw [if_neg (h c (List.mem_cons_self ..)), ih]
    rfl
theorem splitC_id : ∀ (p : List UInt8), (∀ c ∈ p, c ≠ 44) → splitC p = [p]
  | [], _ => rfl
  | c :: p, h => by
    have ih := splitC_id p (fun d hd => h d (List.mem_cons_of_mem _ hd))
    conv => lhs; unfold splitC
    rw [if_neg (h c (List.mem_cons_self ..)), ih]
    rfl
theorem piece_size (s : ByteArray) (a b : Nat) (h : a ≤ b) (hb : b ≤ s.size) : (s.extract a b).size = b - a := by
  rw [ByteArray.size_extract]
  omega
theorem field_j1 (s : ByteArray) (hs : s.size ≤ 4294967296) (frm i : Nat) (out : List Int) (hf : frm ≤ i) (hi : i ≤ s.size) (ho : out.length < 17592186044416) (k : Nat) :
    mudlarkref09_numbers.j1 (k + 1) s out (frm : Int) (i : Int) false = if okR (s.extract frm i) = true then mudlarkref09_numbers.l0 k s (out ++ [nN (s.extract frm i)]) ((i + 1 : Nat) : Int) ((i + 1 : Nat) : Int) else some ([], false) := by
  have hz := piece_size s frm i hf hi
  have w1 : wrap64 ((i : Int) - (frm : Int)) = (i : Int) - frm := wrap64_id _ (by omega) (by omega)
  have w2 : wrap64 ((i : Int) + 1) = ((i + 1 : Nat) : Int) := next_i i (by omega)
  simp only [mudlarkref09_numbers.j1]
  rw [if_neg (by simp), if_pos (by omega), if_pos (by omega), if_pos (by omega), Int.toNat_natCast, Int.toNat_natCast, Atoi_f _ (by omega), Option.bind_some, w1, w2]
  have hn : (atoiV (s.extract frm i).data.toList).1 = nN (s.extract frm i) := rfl
  rw [hn]
  generalize s.extract frm i = x at hz ⊢
  by_cases c1 : (i : Int) - frm > 13
  · rw [if_pos c1, if_neg]
    intro h
    have := (ok_parts h).1
    omega
  · rw [if_neg c1]
    by_cases c2 : nN x < 0
    · rw [if_pos c2, if_neg]
      intro h
      have := (ok_parts h).2.1
      omega
    · rw [if_neg c2, Itoa_f _ (nN_range x), Option.bind_some]
      by_cases c3 : (tx (Lib.itoa (nN x))).toList = x.toList
      · rw [if_pos c3, if_pos ho, if_pos]
        unfold okR
        rw [decide_eq_true (by omega), decide_eq_true (by omega), Bool.true_and, Bool.true_and, beq_iff_eq]
        exact c3
      · rw [if_neg c3, if_neg]
        intro h
        exact c3 (ok_parts h).2.2
theorem numbers_l0 (s : ByteArray) (hs : s.size ≤ 4294967296) : ∀ (d i frm : Nat) (out : List Int), s.size - i = d → i ≤ s.size → frm ≤ i → out.length ≤ frm → (∀ c ∈ (s.data.toList.take i).drop frm, c ≠ 44) →
    Ev (fun k => mudlarkref09_numbers.l0 k s out (frm : Int) (i : Int)) (goR ((splitC (s.data.toList.drop frm)).map tx) out)
  | 0, i, frm, out, hd, hi, hf, ho, hc => by
    obtain rfl : i = s.size := by omega
    have hl : s.data.toList.length = s.size := (Lib.size_eq s).symm
    rw [List.take_of_length_le (by omega)] at hc
    rw [splitC_id _ hc]
    have hx : tx (s.data.toList.drop frm) = s.extract frm s.size := by
      rw [extract_tx s frm s.size (Nat.le_refl _), List.take_of_length_le (by omega)]
    rw [List.map_cons, List.map_nil, hx, goR]
    refine Ev.step (f := fun k => mudlarkref09_numbers.j1 k s out (frm : Int) (s.size : Int) false) (fun k => ?_) ?_
    · simp only [mudlarkref09_numbers.l0]
      rw [if_pos (by omega), if_neg (by omega)]
    · refine Ev.step (fun k => field_j1 s hs frm s.size out hf (Nat.le_refl _) (by omega) k) ?_
      by_cases c : okR (s.extract frm s.size) = true
      · simp only [if_pos c]
        rw [goR]
        refine Ev.step (f := fun _ => some (out ++ [nN (s.extract frm s.size)], true)) (fun k => ?_) (Ev.now _)
        simp only [mudlarkref09_numbers.l0]
        rw [if_neg (by omega)]
      · simp only [if_neg c]
        exact Ev.now _
  | d + 1, i, frm, out, hd, hi, hf, ho, hc => by
    have hl : s.data.toList.length = s.size := (Lib.size_eq s).symm
    have hlt : i < s.size := by omega
    have hli : i < s.data.toList.length := by omega
    have hb : bt s (i : Int) = ((s.data.toList[i]'hli).toNat : Int) := by
      have := bt_at s (i : Int) (by rw [Int.toNat_natCast]; exact hlt)
      rw [← this]
      rfl
    have htake : (s.data.toList.take (i + 1)).drop frm = (s.data.toList.take i).drop frm ++ [s.data.toList[i]'hli] := by
      rw [List.take_succ_eq_append_getElem hli, List.drop_append_of_le_length (by rw [List.length_take]; omega)]
    by_cases c : s.data.toList[i]'hli = 44
    · have hb2 : (bt s (i : Int) != 44) = false := by rw [hb, c]; rfl
      have hsp : s.data.toList.drop frm = (s.data.toList.take i).drop frm ++ 44 :: s.data.toList.drop (i + 1) := by
        conv => lhs; rw [← List.take_append_drop i s.data.toList, List.drop_append_of_le_length (by rw [List.length_take]; omega), List.drop_eq_getElem_cons hli, c]
      rw [hsp, splitC_app _ _ hc, List.map_cons, ← extract_tx s frm i (by omega)]
      refine Ev.step (f := fun k => mudlarkref09_numbers.j1 k s out (frm : Int) (i : Int) false) (fun k => ?_) ?_
      · simp only [mudlarkref09_numbers.l0]
        rw [if_pos (by omega), if_pos (by omega), if_pos (by omega), hb2]
      · refine Ev.step (fun k => field_j1 s hs frm i out hf (by omega) (by omega) k) ?_
        rw [goR]
        by_cases c9 : okR (s.extract frm i) = true
        · simp only [if_pos c9]
          exact numbers_l0 s hs d (i + 1) (i + 1) _ (by omega) (by omega) (Nat.le_refl _) (by simp; omega) (fun c hc => by
            rw [List.drop_eq_nil_of_le (by rw [List.length_take]; omega)] at hc
            cases hc)
        · simp only [if_neg c9]
          exact Ev.now _
    · have hb2 : (bt s (i : Int) != 44) = true := by
        rw [hb, bne_iff_ne]
        intro e
        apply c
        apply UInt8.toNat_inj.1
        show _ = 44
        omega
      refine Ev.step (f := fun k => mudlarkref09_numbers.j1 k s out (frm : Int) (i : Int) true) (fun k => ?_) ?_
      · simp only [mudlarkref09_numbers.l0]
        rw [if_pos (by omega), if_pos (by omega), if_pos (by omega), hb2]
      · refine Ev.step (fun k => ?_) (numbers_l0 s hs d (i + 1) frm out (by omega) (by omega) (by omega) ho (fun q hq => by
          rw [htake] at hq
          rcases List.mem_append.1 hq with h | h
          · exact hc q h
          · rw [List.mem_singleton.1 h]; exact c))
        simp only [mudlarkref09_numbers.j1]
        rw [if_pos trivial, next_i i (by omega)]
theorem numbers_ev (s : ByteArray) (hs : s.size ≤ 4294967296) : Ev (fun k => mudlarkref09_numbers.f k s) (goR (fieldsB s) []) := by
  have h := numbers_l0 s hs s.size 0 0 [] (by omega) (by omega) (by omega) (by simp) (fun c hc => by simp at hc)
  rw [List.drop_zero] at h
  exact h
/-! ### Numbers in pairs -/
def pairsOf : List Int → List S40
  | [] => []
  | [a] => [⟨a, 0⟩]
  | a :: b :: l => ⟨a, b⟩ :: pairsOf l
theorem pairs_even : ∀ (l : List Int) (a : Int), l.length % 2 = 0 → pairsOf (l ++ [a]) = stepP false (pairsOf l) a
  | [], a, _ => rfl
  | [x], a, h => by simp at h
  | x :: y :: l, a, h => by
    have ih := pairs_even l a (by simp only [List.length_cons] at h; omega)
    unfold stepP at ih ⊢
    rw [if_neg (by simp)] at ih ⊢
    simp only [List.cons_append, pairsOf, ih]
theorem stepP_cons (p : S40) (q : List S40) (hq : q ≠ []) (n : Int) : stepP true (p :: q) n = p :: stepP true q n := by
  cases q with
  | nil => exact absurd rfl hq
  | cons r q => simp [stepP]
theorem pairs_ne (l : List Int) (h : l ≠ []) : pairsOf l ≠ [] := by
  match l with
  | [] => exact absurd rfl h
  | [a] => simp [pairsOf]
  | a :: b :: l => simp [pairsOf]
theorem pairs_odd : ∀ (l : List Int) (a : Int), l.length % 2 = 1 → pairsOf (l ++ [a]) = stepP true (pairsOf l) a
  | [], a, h => by simp at h
  | [x], a, h => rfl
  | x :: y :: l, a, h => by
    have hl : l ≠ [] := fun e => by subst e; simp at h
    have ih := pairs_odd l a (by simp only [List.length_cons] at h; omega)
    simp only [List.cons_append, pairsOf, ih]
    rw [stepP_cons _ _ (pairs_ne l hl)]
theorem pairs_length : ∀ l : List Int, (pairsOf l).length = (l.length + 1) / 2
  | [] => rfl
  | [a] => by simp [pairsOf]
  | a :: b :: l => by simp only [pairsOf, List.length_cons, pairs_length l]; omega
def finR (p : List Int × Bool) : List S40 × Bool := if p.2 = true then (if p.1.length % 2 = 1 ∨ 2000 < p.1.length then ([], false) else (pairsOf p.1, true)) else ([], false)
theorem parseGo_eq : ∀ (xs : List ByteArray) (nums : List Int), (∀ x ∈ xs, x.size ≤ 281474976710656) → parseGo xs (decide (nums.length % 2 = 1)) (pairsOf nums) = some (finR (goR xs nums))
  | [], nums, _ => by
    unfold parseGo goR finR
    simp only [if_true]
    rw [pairs_length]
    by_cases c : nums.length % 2 = 1
    · rw [if_pos (.inl (decide_eq_true c)), if_pos (.inl c)]
    · by_cases c2 : 2000 < nums.length
      · rw [if_pos (.inr (by omega)), if_pos (.inr c2)]
      · rw [if_neg (by simp [c]; omega), if_neg (by omega)]
  | x :: xs, nums, h => by
    have ih := parseGo_eq xs (nums ++ [nN x]) (fun y hy => h y (List.mem_cons_of_mem _ hy))
    unfold parseGo
    rw [number_f x (h x (List.mem_cons_self ..)), Option.bind_some, goR]
    by_cases c : okR x = true
    · simp only [c, if_true]
      rw [← ih]
      have hlen : (nums ++ [nN x]).length = nums.length + 1 := by simp
      by_cases c2 : nums.length % 2 = 1
      · rw [pairs_odd nums _ c2, hlen, decide_eq_true c2, decide_eq_false (show ¬ (nums.length + 1) % 2 = 1 by omega)]
        rfl
      · rw [pairs_even nums _ (by omega), hlen, decide_eq_false c2, decide_eq_true (show (nums.length + 1) % 2 = 1 by omega)]
        rfl
    · simp only [if_neg c]
      rfl
theorem fields_small (s : ByteArray) : ∀ x ∈ fieldsB s, x.size ≤ s.size := by
  intro x hx
  unfold fieldsB at hx
  obtain ⟨p, hp, rfl⟩ := List.mem_map.1 hx
  have : ∀ (l : List UInt8), ∀ q ∈ splitC l, q.length ≤ l.length := by
    intro l
    induction l with
    | nil => intro q hq; simp [splitC] at hq; subst hq; simp
    | cons c l ih =>
      intro q hq
      unfold splitC at hq
      by_cases c0 : c = 44
      · rw [if_pos c0] at hq
        rcases List.mem_cons.1 hq with rfl | h
        · simp
        · have := ih q h; simp; omega
      · rw [if_neg c0] at hq
        rcases List.mem_cons.1 hq with rfl | h
        · cases hs : splitC l with
          | nil => exact absurd hs (splitC_ne l)
          | cons a b =>
            have := ih a (by rw [hs]; simp)
            simp
            omega
        · have := ih q (List.mem_of_mem_tail h); simp; omega
  have h2 := this s.data.toList p hp
  have h3 : (tx p).size = p.length := Lib.size_eq (tx p)
  have h4 : s.data.toList.length = s.size := (Lib.size_eq s).symm
  omega
/-- What either parser comes to. -/
def parseR (s : ByteArray) : List S40 × Bool := if s.size = 0 then ([], true) else finR (goR (fieldsB s) [])
theorem parse_f (s : ByteArray) (hs : s.size ≤ 4294967296) : sparse_Parse.f s = some (parseR s) := by
  unfold sparse_Parse.f parseR
  rw [if_pos hs]
  by_cases c : s.size = 0
  · rw [if_pos c, if_pos c]
  · rw [if_neg c, if_neg c]
    exact parseGo_eq (fieldsB s) [] (fun x hx => by have := fields_small s x hx; omega)
theorem refPairs (n : List Int) (hn : n.length ≤ 2000) (he : n.length % 2 = 0) : ∀ (d j : Nat) (out : List S40), 2 * (d + j) = n.length → out.length = j → Ev (fun k => mudlarkref09_Parse.l0 k n out ((2 * j : Nat) : Int)) (out ++ pairsOf (n.drop (2 * j)), true)
  | 0, j, out, h0, h1 => by
    refine Ev.step (f := fun _ => some (out, true)) (fun k => ?_) (by rw [List.drop_eq_nil_of_le (by omega)]; simp only [pairsOf, List.append_nil]; exact Ev.now _)
    simp only [mudlarkref09_Parse.l0]
    rw [if_neg (by omega)]
  | d + 1, j, out, h0, h1 => by
    have hlt : 2 * j < n.length := by omega
    have hlt1 : 2 * j + 1 < n.length := by omega
    have w1 : wrap64 (((2 * j : Nat) : Int) + 1) = ((2 * j + 1 : Nat) : Int) := next_i _ (by omega)
    have w2 : wrap64 (((2 * j : Nat) : Int) + 2) = ((2 * (j + 1) : Nat) : Int) := by rw [wrap64_id _ (by omega) (by omega)]; push_cast; omega
    have ed : n.drop (2 * j) = n[2 * j] :: n[2 * j + 1] :: n.drop (2 * (j + 1)) := by
      rw [List.drop_eq_getElem_cons hlt, List.drop_eq_getElem_cons hlt1]
      rfl
    have ih := refPairs n hn he d (j + 1) (out ++ [⟨n[2 * j], n[2 * j + 1]⟩]) (by omega) (by simp [h1])
    rw [List.append_assoc] at ih
    rw [ed, pairsOf]
    refine Ev.step (fun k => ?_) ih
    simp only [mudlarkref09_Parse.l0]
    rw [if_pos (by omega), if_pos (by omega), w1, if_pos (by omega), if_pos (by omega), if_pos (by omega), w2, rd_at n (2 * j) hlt, rd_at n (2 * j + 1) hlt1]
theorem refParse_ev (s : ByteArray) (hs : s.size ≤ 4294967296) : Ev (fun k => mudlarkref09_Parse.f k s) (parseR s) := by
  unfold parseR
  by_cases c : s.size = 0
  · rw [if_pos c]
    refine Ev.congr (f := fun _ => some (([] : List S40), true)) (fun k => ?_) (Ev.now _)
    unfold mudlarkref09_Parse.f
    rw [if_pos]
    rw [Lib.toList_data]
    exact List.eq_nil_of_length_eq_zero (by rw [← Lib.size_eq]; exact c)
  · rw [if_neg c]
    have hne : ¬ s.toList = ([] : List UInt8) := fun e => c (by
      rw [Lib.toList_data] at e
      rw [Lib.size_eq, e]; rfl)
    refine Ev.congr (f := fun k => (mudlarkref09_numbers.f k s).bind fun bt115 => (if bt115.2 = true then (if ((bt115.1.length : Int) % 2) = 1 then (mudlarkref09_Parse.j0 k bt115.1 true) else (mudlarkref09_Parse.j0 k bt115.1 (decide ((bt115.1.length : Int) > 2000)))) else (mudlarkref09_Parse.j0 k bt115.1 true))) (fun k => ?_) ?_
    · unfold mudlarkref09_Parse.f
      rw [if_neg hne]
    · refine Ev.bind (g := fun k => mudlarkref09_numbers.f k s) (numbers_ev s hs) ?_
      obtain ⟨n, ok⟩ := goR (fieldsB s) []
      have hyes : Ev (fun k => mudlarkref09_Parse.j0 k n true) ([], false) := Ev.step (f := fun _ => some (([] : List S40), false)) (fun k => by simp only [mudlarkref09_Parse.j0]; rw [if_pos trivial]) (Ev.now _)
      unfold finR
      cases ok with
      | false =>
        simp only [Bool.false_eq_true, if_false]
        exact hyes
      | true =>
        simp only [if_true]
        by_cases c1 : n.length % 2 = 1
        · rw [if_pos (.inl c1)]
          refine Ev.congr (fun k => ?_) hyes
          rw [if_pos (by omega)]
        · by_cases c2 : 2000 < n.length
          · rw [if_pos (.inr c2)]
            refine Ev.congr (fun k => ?_) hyes
            rw [if_neg (by omega), decide_eq_true (by omega)]
          · rw [if_neg (by omega)]
            have h := refPairs n (by omega) (by omega) (n.length / 2) 0 [] (by omega) rfl
            rw [show n.drop (2 * 0) = n from rfl, List.nil_append] at h
            refine Ev.congr (f := fun k => mudlarkref09_Parse.j0 k n false) (fun k => ?_) (Ev.step (fun k => ?_) h)
            · rw [if_neg (by omega), decide_eq_false (by omega)]
            · simp only [mudlarkref09_Parse.j0]
              rw [if_neg (by simp)]
              rfl
end Go.Proofs.YtlnbkmlidmgbaaaDoor.P
end
