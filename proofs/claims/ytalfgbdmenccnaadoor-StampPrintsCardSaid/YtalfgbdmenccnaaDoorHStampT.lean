/- Parse and Print of every text and time; what was printed is parsed as it was. No conditions. -/
import Derived.Test.YtalfgbdmenccnaaDoorHStamp
import Derived.Test.YtalfgbdmenccnaaDoorHTab10L
namespace Go.Proofs.YtalfgbdmenccnaaDoor.P
open Go Go.RowKit Go.Shelf Go.Lib Go.Proofs.YtalfgbdmenccnaaDoorW.PrintWords Go.Proofs.YtalfgbdmenccnaaDoorW.PrintLast Go.Proofs.YtalfgbdmenccnaaDoorW.PrintMore
set_option linter.unusedVariables false
set_option linter.unusedSimpArgs false

/-! ### Parse -/
def unsig : List UInt8 → Bool × List UInt8
  | [] => (false, [])
  | c :: t => if c = 45 then (true, t) else (false, c :: t)
theorem unsig_le (l : List UInt8) : (unsig l).2.length ≤ l.length := by
  cases l with
  | nil => exact Nat.le_refl _
  | cons c t =>
    show (if c = 45 then (true, t) else (false, c :: t)).2.length ≤ _
    by_cases h : c = 45
    · rw [if_pos h]
      exact Nat.le_succ _
    · rw [if_neg h]
      exact Nat.le_refl _
theorem prefix_eq (l : List UInt8) : strings_CutPrefix.f (tx l) (⟨#[45]⟩ : ByteArray) = some (tx (unsig l).2, (unsig l).1) := by
  unfold strings_CutPrefix.f
  rw [data_tx, show (⟨#[45]⟩ : ByteArray).data.toList = [45] from rfl]
  congr 1
  unfold Lib.trimPrefix Lib.hasPrefix unsig
  cases l with
  | nil => rfl
  | cons c t =>
    by_cases h : c = 45
    · subst h
      rfl
    · have h2 : ([45] : List UInt8).isPrefixOf (c :: t) = false := by
        simp only [List.isPrefixOf, Bool.and_true]
        exact beq_eq_false_iff_ne.2 (fun e => h e.symm)
      rw [h2]
      simp only [if_neg h]
      rfl
def cutD (l : List UInt8) : List UInt8 × List UInt8 × Bool := Lib.cut l [46]
theorem cut_eq (l : List UInt8) (h : l.length ≤ 9223372036854775806) : strings_Cut.f (tx l) (⟨#[46]⟩ : ByteArray) = some (tx (cutD l).1, tx (cutD l).2.1, (cutD l).2.2) := by
  show (if (tx l).size ≤ 9223372036854775806 then some (tx (Lib.cut l [46]).1, tx (Lib.cut l [46]).2.1, (Lib.cut l [46]).2.2) else none) = _
  rw [if_pos (by rw [tx_size]; exact h)]
  rfl
def NoDot (p : List UInt8) : Prop := ∀ c ∈ p, c ≠ 46
theorem ix_no : ∀ (p : List UInt8), NoDot p → Lib.indexByte p 46 = -1
  | [], _ => rfl
  | c :: t, h => by
    have hc := h c (by simp)
    have ih := ix_no t (fun x hx => h x (by simp [hx]))
    unfold Lib.indexByte
    rw [beq_eq_false_iff_ne.2 hc, ih]
    rfl
theorem ix_at : ∀ (p t : List UInt8), NoDot p → Lib.indexByte (p ++ 46 :: t) 46 = (p.length : Int)
  | [], t, _ => rfl
  | c :: p, t, h => by
    have hc := h c (by simp)
    have ih := ix_at p t (fun x hx => h x (by simp [hx]))
    rw [List.cons_append]
    unfold Lib.indexByte
    rw [beq_eq_false_iff_ne.2 hc, ih]
    have : ((p.length : Int) == -1) = false := beq_eq_false_iff_ne.2 (by omega)
    simp [this]
theorem cut_no (p : List UInt8) (h : NoDot p) : cutD p = (p, [], false) := by
  unfold cutD Lib.cut
  rw [Lib.index_one, ix_no p h]
  rfl
theorem cut_at (p t : List UInt8) (h : NoDot p) : cutD (p ++ 46 :: t) = (p, t, true) := by
  unfold cutD Lib.cut
  rw [Lib.index_one, ix_at p t h, if_pos (by omega), Int.toNat_natCast]
  simp
theorem dot_split : ∀ (l : List UInt8), NoDot l ∨ ∃ p t, NoDot p ∧ l = p ++ 46 :: t
  | [] => .inl (fun c hc => by simp at hc)
  | c :: l => by
    by_cases hc : c = 46
    · exact .inr ⟨[], l, fun c hc => by simp at hc, by rw [hc]; rfl⟩
    · rcases dot_split l with h | ⟨p, t, h, e⟩
      · refine .inl (fun x hx => ?_)
        rcases List.mem_cons.1 hx with hx | hx
        · rw [hx]; exact hc
        · exact h x hx
      · refine .inr ⟨c :: p, t, fun x hx => ?_, by rw [e]; rfl⟩
        rcases List.mem_cons.1 hx with hx | hx
        · rw [hx]; exact hc
        · exact h x hx
theorem dig_nodot (l : List UInt8) (h : l.all isDig = true) : NoDot l := fun c hc e => by
  have := (isDig_iff c).1 (List.all_eq_true.1 h c hc)
  subst e
  revert this
  decide
def fin (n : Bool) (s f : Nat) : Int × Int × Bool := if n = true then (if f > 0 then (-(s : Int) - 1, 1000000000 - (f : Int), true) else (-(s : Int), (f : Int), true)) else ((s : Int), (f : Int), true)
def nines (b : List UInt8) : List UInt8 := (b ++ List.replicate 9 48).take 9
def parseT (l : List UInt8) : Int × Int × Bool :=
  if dsB (cutD (unsig l).2).1 15 = true ∧ ((cutD (unsig l).2).2.2 = true → dsB (cutD (unsig l).2).2.1 18 = true) then fin (unsig l).1 (dv 0 (cutD (unsig l).2).1) (dv 0 (nines (cutD (unsig l).2).2.1)) else (0, 0, false)
theorem nines_len (b : List UInt8) : (nines b).length = 9 := by
  unfold nines
  rw [List.length_take, List.length_append, List.length_replicate]
  omega
theorem nines_dig (b : List UInt8) (h : b.all isDig = true) : (nines b).all isDig = true := by
  rw [List.all_eq_true]
  intro x hx
  have hx2 := List.mem_of_mem_take hx
  rcases List.mem_append.1 hx2 with hx3 | hx3
  · exact List.all_eq_true.1 h x hx3
  · rw [List.eq_of_mem_replicate hx3]; rfl
theorem rep9 : strings_Repeat.f (⟨#[48]⟩ : ByteArray) 9 = some (tx (List.replicate 9 48)) := by
  unfold strings_Repeat.f
  rw [if_pos ⟨by decide, by decide, by decide⟩]
  rfl
theorem parse_no (n : Bool) (a b : ByteArray) : Ev (fun k => stamp_Parse.j0 k n a b true) (0, 0, false) :=
  Ev.step (f := fun _ => some (0, 0, false)) (fun k => by simp only [stamp_Parse.j0, if_true]) (Ev.now _)
theorem parse_yes (n : Bool) (a b : List UInt8) (ha : dsB a 15 = true) (hb : b.all isDig = true) (hl : b.length ≤ 18) :
    Ev (fun k => stamp_Parse.j0 k n (tx a) (tx b) false) (fin n (dv 0 a) (dv 0 (nines b))) := by
  obtain ⟨h1, h2, h3⟩ := (dsB_iff a 15).1 ha
  have e1 := Atoi_eq a h1 h2 (by omega)
  have hz : (tx b ++ tx (List.replicate 9 48)).extract 0 9 = tx (nines b) := by
    rw [tx_app, tx_cut]
    rfl
  have e2 := Atoi_eq (nines b) (nines_dig b hb) (fun e => by have := nines_len b; rw [e] at this; cases this) (by rw [nines_len]; omega)
  have l1 := dv_lt a h1
  have l2 : dv 0 a < 10 ^ 15 := Nat.lt_of_lt_of_le l1 (Nat.pow_le_pow_right (by omega) h3)
  have l3 := dv_lt _ (nines_dig b hb)
  rw [nines_len] at l3
  refine Ev.step (f := fun _ => some (fin n (dv 0 a) (dv 0 (nines b)))) (fun k => ?_) (Ev.now _)
  simp only [stamp_Parse.j0]
  rw [if_neg (by simp), e1, rep9, Option.bind_some, Option.bind_some, if_pos (by rw [tx_size, tx_size, List.length_replicate]; omega), if_pos (by decide),
    if_pos (by rw [tx_app, tx_size, List.length_append, List.length_replicate]; omega), hz, e2, Option.bind_some]
  unfold fin
  by_cases c1 : n = true
  · rw [if_pos c1, if_pos c1]
    by_cases c2 : dv 0 (nines b) > 0
    · rw [if_pos (by omega), if_pos c2, wrap64_id (-((dv 0 a : Nat) : Int)) (by omega) (by omega), wrap64_id _ (by omega) (by omega), wrap64_id _ (by omega) (by omega)]
    · rw [if_neg (by omega), if_neg c2, wrap64_id _ (by omega) (by omega)]
  · rw [if_neg c1, if_neg c1]
theorem Parse_ev (l : List UInt8) (h : l.length ≤ 9223372036854775806) : Ev (fun k => stamp_Parse.f k (tx l)) (parseT l) := by
  have e1 := prefix_eq l
  have e2 := cut_eq (unsig l).2 (Nat.le_trans (unsig_le l) h)
  have e3 := digits_eq (cutD (unsig l).2).1 15
  have e4 := digits_eq (cutD (unsig l).2).2.1 18
  have hb : (cutD (unsig l).2).2.2 = false → (cutD (unsig l).2).2.1 = [] := by
    intro hf
    rcases dot_split (unsig l).2 with hn | ⟨p, t, hp, e⟩
    · rw [cut_no _ hn]
    · rw [e, cut_at p t hp] at hf
      cases hf
  unfold parseT
  generalize unsig l = u at *
  generalize cutD u.2 = c at *
  obtain ⟨n, t⟩ := u
  obtain ⟨a, b, p⟩ := c
  simp only at *
  have hf : ∀ k, stamp_Parse.f k (tx l) = if dsB a 15 = true then (if p = true then stamp_Parse.j0 k n (tx a) (tx b) (!(dsB b 18)) else stamp_Parse.j0 k n (tx a) (tx b) false) else stamp_Parse.j0 k n (tx a) (tx b) true := fun k => by
    unfold stamp_Parse.f
    have e3' : stamp_digits.f (tx a) 15 = some (dsB a 15) := e3
    have e4' : stamp_digits.f (tx b) 18 = some (dsB b 18) := e4
    simp only [e1, e2, e3', e4', Option.bind_some]
  refine Ev.congr hf ?_
  by_cases c1 : dsB a 15 = true
  · simp only [if_pos c1]
    cases p with
    | true =>
      simp only [if_true]
      by_cases c2 : dsB b 18 = true
      · obtain ⟨g1, g2, g3⟩ := (dsB_iff b 18).1 c2
        rw [if_pos ⟨c1, fun _ => c2⟩, c2]
        exact parse_yes n a b c1 g1 g3
      · rw [if_neg (fun hh => c2 (hh.2 trivial)), Bool.eq_false_iff.2 c2]
        exact parse_no n _ _
    | false =>
      rw [if_pos ⟨c1, fun hh => by cases hh⟩, hb rfl]
      simp only [Bool.false_eq_true, if_false]
      exact parse_yes n a [] c1 rfl (Nat.zero_le _)
  · simp only [if_neg c1]
    rw [if_neg (fun hh => c1 hh.1)]
    exact parse_no n _ _

/-! ### Print -/
def clampS (S : Int) : Int := mx (-999999999999999) (mn S 999999999999999)
def clampN (N : Int) : Int := mx 0 (mn N 999999999)
theorem clampS_in (S : Int) : -999999999999999 ≤ clampS S ∧ clampS S ≤ 999999999999999 := by
  unfold clampS mx mn
  repeat' split
  all_goals omega
theorem clampN_in (N : Int) : 0 ≤ clampN N ∧ clampN N ≤ 999999999 := by
  unfold clampN mx mn
  repeat' split
  all_goals omega
theorem clampS_id (S : Int) (h : -999999999999999 ≤ S ∧ S ≤ 999999999999999) : clampS S = S := by
  unfold clampS mx mn
  repeat' split
  all_goals omega
theorem clampN_id (N : Int) (h : 0 ≤ N ∧ N ≤ 999999999) : clampN N = N := by
  unfold clampN mx mn
  repeat' split
  all_goals omega
theorem norm_eq (S N : Int) : stamp_Norm.f S N = some (clampS S, clampN N) := rfl
def partsT (s n : Int) : Bool × Nat × Nat := if s < 0 then (if n > 0 then (true, (-s - 1).toNat, (1000000000 - n).toNat) else (true, (-s).toNat, n.toNat)) else (false, s.toNat, n.toNat)
def fracT (n : Nat) : List UInt8 := Lib.trimRightB ((Lib.decDigits (1000000000 + n)).drop 1) 48
def tailT (n : Nat) : List UInt8 := if n > 0 then 46 :: fracT n else []
def bodyT (p : Bool × Nat × Nat) : List UInt8 := (if p.1 = true then [45] else []) ++ (Lib.decDigits p.2.1 ++ tailT p.2.2)
def printT (S N : Int) : List UInt8 := bodyT (partsT (clampS S) (clampN N))
theorem partsT_in (s n : Int) (h : -999999999999999 ≤ s ∧ s ≤ 999999999999999) (hn : 0 ≤ n ∧ n ≤ 999999999) : (partsT s n).2.1 ≤ 999999999999999 ∧ (partsT s n).2.2 < 1000000000 := by
  unfold partsT
  repeat' split
  all_goals simp only
  all_goals omega
theorem frac_ok (n : Nat) (hn : n < 1000000000) : (fracT n).all isDig = true ∧ (fracT n).length ≤ 9 ∧ nines (fracT n) = (Lib.decDigits (1000000000 + n)).drop 1 ∧ dv 0 (nines (fracT n)) = n ∧ (0 < n → fracT n ≠ []) := by
  obtain ⟨c, t, e, ht, hd, hv⟩ := ten n hn
  unfold fracT
  rw [e, show (c :: t).drop 1 = t from rfl]
  obtain ⟨k, hk⟩ := trim_back t
  generalize Lib.trimRightB t 48 = f at hk
  have hlen : f.length + k = 9 := by rw [← ht, hk, List.length_append, List.length_replicate]
  have hfd : f.all isDig = true := by
    rw [hk, List.all_append, Bool.and_eq_true] at hd
    exact hd.1
  have hn9 : nines f = t := by
    unfold nines
    rw [List.take_append, List.take_of_length_le (by omega), List.take_replicate, show min (9 - f.length) 9 = k by omega]
    exact hk.symm
  refine ⟨hfd, by omega, hn9, by rw [hn9]; exact hv, fun h0 hf => ?_⟩
  subst hf
  rw [List.nil_append] at hk
  rw [hk, dv_nul] at hv
  omega
theorem itoa_nat (n : Nat) (h : n ≤ 9223372036854775807) : strconv_Itoa_25.f (n : Int) = some (tx (Lib.decDigits n)) := by
  unfold strconv_Itoa_25.f
  rw [if_pos ⟨by omega, by omega⟩]
  unfold Lib.itoa
  rw [if_neg (by omega), Int.toNat_natCast]
theorem dd_le16 (s : Nat) (h : s ≤ 999999999999999) : (Lib.decDigits s).length ≤ 15 := dd_le 14 s (by omega)
theorem dd_le10 (n : Nat) (h : n < 1000000000) : (Lib.decDigits (1000000000 + n)).length = 10 := by
  obtain ⟨c, t, e, ht, _, _⟩ := ten n h
  rw [e, List.length_cons, ht]
theorem print_j (x : List UInt8) (s n : Nat) (hs : s ≤ 999999999999999) (hn : n < 1000000000) (hx : x.length ≤ 1) :
    Ev (fun k => stamp_Print.j0 k (tx x) (s : Int) (n : Int)) (tx (x ++ (Lib.decDigits s ++ tailT n))) := by
  have l1 := dd_le16 s hs
  refine Ev.step (f := fun _ => some (tx (x ++ (Lib.decDigits s ++ tailT n)))) (fun k => ?_) (Ev.now _)
  simp only [stamp_Print.j0]
  rw [itoa_nat s (by omega), Option.bind_some, if_pos (by rw [tx_size, tx_size]; omega)]
  unfold tailT
  by_cases c : n > 0
  · have l2 := dd_le10 n hn
    have l3 := (frac_ok n hn).2.1
    rw [if_pos (by omega), if_pos c, wrap64_id _ (by omega) (by omega), show (1000000000 : Int) + (n : Int) = ((1000000000 + n : Nat) : Int) by omega, itoa_nat _ (by omega), Option.bind_some,
      if_pos (by rw [tx_size]; omega), tx_cut, tx_size, List.take_of_length_le (Nat.le_refl _)]
    have e : strings_TrimRight.f (tx ((Lib.decDigits (1000000000 + n)).drop 1)) (⟨#[48]⟩ : ByteArray) = some (tx (fracT n)) := by
      show (if (48 : UInt8).toNat < 128 ∧ (tx ((Lib.decDigits (1000000000 + n)).drop 1)).size ≤ 9223372036854775807 then some (tx (fracT n)) else none) = _
      rw [if_pos ⟨by decide, by rw [tx_size, List.length_drop]; omega⟩]
    have e46 : (⟨#[46]⟩ : ByteArray) = tx [46] := rfl
    rw [e, Option.bind_some, if_pos (by rw [tx_size]; omega), e46, tx_app, tx_app, if_pos (by rw [tx_size, tx_size, List.length_append, List.length_append]; simp only [List.length_cons, List.length_nil]; omega), tx_app]
    congr 2
    simp
  · rw [if_neg (by omega), if_neg c, List.append_nil, tx_app]
theorem Print_ev (S N : Int) : Ev (fun k => stamp_Print.f k S N) (tx (printT S N)) := by
  have hS := clampS_in S
  have hN := clampN_in N
  refine Ev.congr (f := fun k => if clampS S < 0 then (if clampN N > 0 then stamp_Print.j0 k (⟨#[45]⟩ : ByteArray) (wrap64 ((wrap64 (-clampS S)) - 1)) (wrap64 (1000000000 - clampN N)) else stamp_Print.j0 k (⟨#[45]⟩ : ByteArray) (wrap64 (-clampS S)) (clampN N)) else stamp_Print.j0 k (⟨#[]⟩ : ByteArray) (clampS S) (clampN N)) (fun k => rfl) ?_
  unfold printT bodyT partsT
  generalize clampS S = s at *
  generalize clampN N = n at *
  by_cases c1 : s < 0
  · simp only [if_pos c1]
    have w1 : wrap64 (-s) = -s := wrap64_id _ (by omega) (by omega)
    rw [w1]
    by_cases c2 : n > 0
    · simp only [if_pos c2]
      have w2 : wrap64 (-s - 1) = ((-s - 1).toNat : Int) := by rw [wrap64_id _ (by omega) (by omega)]; omega
      have w3 : wrap64 (1000000000 - n) = ((1000000000 - n).toNat : Int) := by rw [wrap64_id _ (by omega) (by omega)]; omega
      rw [w2, w3]
      exact print_j [45] _ _ (by omega) (by omega) (by simp)
    · simp only [if_neg c2]
      have w2 : -s = ((-s).toNat : Int) := by omega
      have w3 : n = (n.toNat : Int) := by omega
      have h := print_j [45] (-s).toNat n.toNat (by omega) (by omega) (by simp)
      rw [← w2, ← w3] at h
      exact h
  · simp only [if_neg c1]
    have w2 : s = (s.toNat : Int) := by omega
    have w3 : n = (n.toNat : Int) := by omega
    have h := print_j [] s.toNat n.toNat (by omega) (by omega) (by simp)
    rw [← w2, ← w3] at h
    exact h

/-! ### There and back -/
theorem unsig_dig (l r : List UInt8) (h : l.all isDig = true) (hne : l ≠ []) : unsig (l ++ r) = (false, l ++ r) := by
  cases l with
  | nil => exact absurd rfl hne
  | cons c t =>
    rw [List.all_cons, Bool.and_eq_true] at h
    have hc := (isDig_iff c).1 h.1
    show (if c = 45 then (true, t ++ r) else (false, c :: (t ++ r))) = _
    rw [if_neg (fun e => by subst e; revert hc; decide)]
    rfl
theorem unsig_sign (n : Bool) (l r : List UInt8) (h : l.all isDig = true) (hne : l ≠ []) : unsig ((if n = true then [45] else []) ++ (l ++ r)) = (n, l ++ r) := by
  cases n with
  | true => rfl
  | false => exact unsig_dig l r h hne
theorem back_body (p : Bool × Nat × Nat) (hs : p.2.1 ≤ 999999999999999) (hn : p.2.2 < 1000000000) : parseT (bodyT p) = fin p.1 p.2.1 p.2.2 := by
  obtain ⟨g, s, n⟩ := p
  simp only at hs hn
  have hd := dd_all s
  have hne := dd_ne s
  have hl := dd_le16 s hs
  have h15 : dsB (Lib.decDigits s) 15 = true := (dsB_iff _ _).2 ⟨hd, hne, hl⟩
  unfold parseT bodyT
  simp only
  rw [unsig_sign g _ _ hd hne]
  simp only
  unfold tailT
  by_cases c : n > 0
  · obtain ⟨f1, f2, f3, f4, f5⟩ := frac_ok n hn
    rw [if_pos c, cut_at _ _ (dig_nodot _ hd)]
    simp only
    rw [if_pos ⟨h15, fun _ => (dsB_iff _ _).2 ⟨f1, f5 c, by omega⟩⟩, dd_val, f4]
  · rw [if_neg c, List.append_nil, cut_no _ (dig_nodot _ hd)]
    simp only
    rw [if_pos ⟨h15, fun hh => by cases hh⟩, dd_val]
    have h0 : n = 0 := by omega
    subst h0
    rfl
theorem fin_parts (s n : Int) (h : -999999999999999 ≤ s ∧ s ≤ 999999999999999) (hn : 0 ≤ n ∧ n ≤ 999999999) : fin (partsT s n).1 (partsT s n).2.1 (partsT s n).2.2 = (s, n, true) := by
  unfold partsT
  by_cases c1 : s < 0
  · rw [if_pos c1]
    by_cases c2 : n > 0
    · rw [if_pos c2]
      unfold fin
      simp only [if_true]
      rw [if_pos (by omega)]
      refine Prod.ext ?_ (Prod.ext ?_ rfl)
      · show -(((-s - 1).toNat : Nat) : Int) - 1 = s
        omega
      · show (1000000000 : Int) - (((1000000000 - n).toNat : Nat) : Int) = n
        omega
    · rw [if_neg c2]
      unfold fin
      simp only [if_true]
      rw [if_neg (by omega)]
      refine Prod.ext ?_ (Prod.ext ?_ rfl)
      · show -(((-s).toNat : Nat) : Int) = s
        omega
      · show ((n.toNat : Nat) : Int) = n
        omega
  · rw [if_neg c1]
    unfold fin
    simp only [Bool.false_eq_true, if_false]
    refine Prod.ext ?_ (Prod.ext ?_ rfl)
    · show ((s.toNat : Nat) : Int) = s
      omega
    · show ((n.toNat : Nat) : Int) = n
      omega
theorem back (S N : Int) : parseT (printT S N) = (clampS S, clampN N, true) := by
  have hp := partsT_in _ _ (clampS_in S) (clampN_in N)
  unfold printT
  rw [back_body _ hp.1 hp.2, fin_parts _ _ (clampS_in S) (clampN_in N)]
theorem body_len (p : Bool × Nat × Nat) (hs : p.2.1 ≤ 999999999999999) (hn : p.2.2 < 1000000000) : (bodyT p).length ≤ 26 := by
  have l1 := dd_le16 _ hs
  have l2 := (frac_ok _ hn).2.1
  unfold bodyT tailT
  rw [List.length_append, List.length_append]
  by_cases c : p.1 = true <;> by_cases c2 : p.2.2 > 0
  all_goals simp only [c, c2, if_true, if_false, List.length_cons, List.length_nil, Bool.false_eq_true]
  all_goals omega
theorem print_len (S N : Int) : (printT S N).length ≤ 26 := by
  have hp := partsT_in _ _ (clampS_in S) (clampN_in N)
  exact body_len _ hp.1 hp.2
/-- The chapter's examples. -/
theorem print_1 : printT (-2) 500000000 = [45, 49, 46, 53] := by
  have e1 : Lib.decDigits 1 = [49] := Lib.decDigits_one (by decide)
  have e2 : Lib.decDigits 1500000000 = [49, 53, 48, 48, 48, 48, 48, 48, 48, 48] := by simp [Lib.decDigits]
  show [45] ++ (Lib.decDigits 1 ++ tailT 500000000) = _
  have e3 : tailT 500000000 = [46, 53] := by
    unfold tailT fracT
    rw [if_pos (by decide), show 1000000000 + 500000000 = 1500000000 from rfl, e2]
    rfl
  rw [e1, e3]
  rfl
theorem print_2 : printT 7 0 = [55] := by
  have e1 : Lib.decDigits 7 = [55] := Lib.decDigits_one (by decide)
  show [] ++ (Lib.decDigits 7 ++ tailT 0) = _
  rw [e1]
  rfl
theorem known_all : Ev (fun k => mudlarklaw04_known.f k) true := by
  have p1 : parseT [45, 49, 46, 53] = (-2, 500000000, true) := by rfl
  have p2 : parseT [] = (0, 0, false) := by rfl
  have h1 := Parse_ev [45, 49, 46, 53] (by decide)
  have h2 := Parse_ev [] (by decide)
  rw [p1] at h1
  rw [p2] at h2
  have h3 := Print_ev (-2) 500000000
  have h4 := Print_ev 7 0
  rw [print_1] at h3
  rw [print_2] at h4
  unfold mudlarklaw04_known.f
  refine Ev.bind (g := fun k => stamp_Parse.f k (⟨#[45, 49, 46, 53]⟩ : ByteArray)) h1 ?_
  refine Ev.bind (g := fun k => stamp_Parse.f k (⟨#[]⟩ : ByteArray)) h2 ?_
  have hc : ((-2 : Int) == -2 && (500000000 : Int) == 500000000) = true := by decide
  simp only [if_true, hc]
  refine Ev.bind (g := fun k => stamp_Print.f k (-2) 500000000) h3 ?_
  simp only [tx_toList, if_true, Bool.false_eq_true, if_false]
  refine Ev.bind (g := fun k => stamp_Print.f k 7 0) h4 ?_
  simp only [tx_toList]
  exact Ev.now true
end Go.Proofs.YtalfgbdmenccnaaDoor.P
