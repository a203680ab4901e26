/- Parts, printed and parsed: in lists and numbers. No conditions. -/
import Derived.Test.YtlnbkmlidmgbaaaDoorHSParse
import Derived.Test.YtlnbkmlidmgbaaaDoorHSPrint
namespace Go.Proofs.YtlnbkmlidmgbaaaDoor.P
open Go Go.RowKit Go.Lib Go.Proofs.YtlnbkmlidmgbaaaDoorW.PrintWords Go.Proofs.YtlnbkmlidmgbaaaDoorW.PrintLast Go.Proofs.YtlnbkmlidmgbaaaDoorW.PrintMore
set_option linter.unusedVariables false
set_option linter.unusedSimpArgs false

/-- Is the byte a digit? -/
def isDig (b : UInt8) : Bool := decide (48 ≤ b.toNat ∧ b.toNat ≤ 57)
theorem isDig_iff (b : UInt8) : isDig b = true ↔ 48 ≤ b.toNat ∧ b.toNat ≤ 57 := by unfold isDig; exact decide_eq_true_iff
def dv (acc : Nat) (l : List UInt8) : Nat := l.foldl (fun a b => a * 10 + (b.toNat - 48)) acc
theorem dv_nil (acc : Nat) : dv acc [] = acc := rfl
theorem dv_cons (acc : Nat) (b : UInt8) (r : List UInt8) : dv acc (b :: r) = dv (acc * 10 + (b.toNat - 48)) r := by
  unfold dv
  rw [List.foldl_cons]
theorem decFrom_dv : ∀ (l : List UInt8) (acc : Nat), l.all isDig = true → Lib.decFrom acc l = some (dv acc l)
  | [], _, _ => rfl
  | b :: r, acc, h => by
    rw [List.all_cons, Bool.and_eq_true] at h
    have hb := (isDig_iff b).1 h.1
    have hd : Lib.digitVal b = some (b.toNat - 48) := by unfold Lib.digitVal; rw [if_pos hb]
    rw [dv_cons]
    simp only [Lib.decFrom, hd]
    exact decFrom_dv r _ h.2
theorem dv_app : ∀ (a b : List UInt8) (acc : Nat), dv acc (a ++ b) = dv (dv acc a) b
  | [], _, _ => rfl
  | c :: a, b, acc => by rw [List.cons_append, dv_cons, dv_cons]; exact dv_app a b _
theorem dg_nat (u : Nat) (h : u < 10) : (UInt8.ofNat (48 + u)).toNat = 48 + u := by
  rw [UInt8.toNat_ofNat']
  omega
theorem dd_all (u : Nat) : (Lib.decDigits u).all isDig = true := by
  induction u using Nat.strongRecOn with
  | _ u ih =>
    rw [Lib.decDigits]
    by_cases h : u < 10
    · rw [dif_pos h, List.all_cons, List.all_nil, Bool.and_true, isDig_iff, dg_nat u h]
      omega
    · rw [dif_neg h, List.all_append, ih (u / 10) (by omega), Bool.true_and, List.all_cons, List.all_nil, Bool.and_true, isDig_iff, dg_nat _ (by omega)]
      omega
theorem dd_val (u : Nat) : dv 0 (Lib.decDigits u) = u := by
  induction u using Nat.strongRecOn with
  | _ u ih =>
    rw [Lib.decDigits]
    by_cases h : u < 10
    · rw [dif_pos h]
      rw [dv_cons, dv_nil, dg_nat u h]
      omega
    · rw [dif_neg h, dv_app, ih (u / 10) (by omega)]
      rw [dv_cons, dv_nil, dg_nat _ (by omega)]
      omega
theorem dd_ne (u : Nat) : Lib.decDigits u ≠ [] := by
  rw [Lib.decDigits]
  by_cases h : u < 10
  · rw [dif_pos h]; simp
  · rw [dif_neg h]; simp
theorem dd_le : ∀ (k u : Nat), u < 10 ^ (k + 1) → (Lib.decDigits u).length ≤ k + 1
  | 0, u, h => by
    rw [Lib.decDigits, dif_pos (by simpa using h)]
    simp
  | k + 1, u, h => by
    rw [Lib.decDigits]
    by_cases h1 : u < 10
    · rw [dif_pos h1]; simp
    · rw [dif_neg h1, List.length_append]
      have := dd_le k (u / 10) (by rw [Nat.pow_succ] at h; omega)
      simp only [List.length_cons, List.length_nil]
      omega

theorem tx_size (l : List UInt8) : (tx l).size = l.length := List.size_toArray
theorem data_tx (l : List UInt8) : (tx l).data.toList = l := rfl
/-! ### Joined and split -/
theorem splitC_plain : ∀ x : List UInt8, (∀ b ∈ x, b ≠ 44) → splitC x = [x]
  | [], _ => rfl
  | c :: x, h => by
    unfold splitC
    rw [if_neg (h c (by simp)), splitC_plain x (fun b hb => h b (by simp [hb]))]
    rfl
theorem splitC_app : ∀ (x rest : List UInt8), (∀ b ∈ x, b ≠ 44) → splitC (x ++ 44 :: rest) = x :: splitC rest
  | [], rest, _ => by
    show splitC (44 :: rest) = _
    rw [splitC, if_pos rfl]
  | c :: x, rest, h => by
    show splitC (c :: (x ++ 44 :: rest)) = _
    rw [splitC, if_neg (h c (by simp)), splitC_app x rest (fun b hb => h b (by simp [hb]))]
    rfl
theorem join_two (x y : List UInt8) (r : List (List UInt8)) : Lib.join (x :: y :: r) [44] = x ++ 44 :: Lib.join (y :: r) [44] := by
  rw [Lib.join_cons, Lib.join_cons]
  unfold Lib.joinTail
  rw [List.map_cons, List.flatten_cons]
  simp
theorem splitC_join : ∀ (r : List (List UInt8)) (x : List UInt8), (∀ y ∈ x :: r, ∀ b ∈ y, b ≠ 44) → splitC (Lib.join (x :: r) [44]) = x :: r
  | [], x, h => by rw [Lib.join_one]; exact splitC_plain x (h x (by simp))
  | y :: r, x, h => by rw [join_two, splitC_app x _ (h x (by simp)), splitC_join r y (fun z hz => h z (by simp [hz]))]
theorem join_len : ∀ (r : List (List UInt8)) (x : List UInt8), (∀ y ∈ x :: r, y.length ≤ 13) → (Lib.join (x :: r) [44]).length ≤ 14 * (r.length + 1)
  | [], x, h => by rw [Lib.join_one]; have := h x (by simp); simp; omega
  | y :: r, x, h => by
    have h1 := h x (by simp)
    have h2 := join_len r y (fun z hz => h z (by simp [hz]))
    rw [join_two, List.length_append, List.length_cons, List.length_cons]
    omega
/-! ### A number -/
theorem clamp_id (n : Nat) (h : n ≤ 9999999999999) : mx 0 (mn (n : Int) 9999999999999) = n := by unfold mx mn; split <;> split <;> omega
theorem tellN_nat (n : Nat) (h : n ≤ 9999999999999) : tellN (n : Int) = tx (Lib.decDigits n) := by
  unfold tellN
  rw [clamp_id n h]
  unfold Lib.itoa
  rw [if_neg (by omega)]
  rfl
theorem dd_13 (n : Nat) (h : n ≤ 9999999999999) : (Lib.decDigits n).length ≤ 13 := dd_le 12 n (by omega)
theorem dd_plain (n : Nat) : ∀ b ∈ Lib.decDigits n, b ≠ 44 := by
  intro b hb e
  have := (isDig_iff b).1 (List.all_eq_true.1 (dd_all n) b hb)
  subst e
  have h44 : (44 : UInt8).toNat = 44 := rfl
  omega
theorem atoi_dd (n : Nat) : Lib.atoi (Lib.decDigits n) = some (n : Int) := by
  have ha := dd_all n
  have hv := dd_val n
  have hd := decFrom_dv (Lib.decDigits n) 0 ha
  cases hl : Lib.decDigits n with
  | nil => exact (dd_ne n hl).elim
  | cons b r =>
    rw [hl] at ha hv hd
    have hb := (isDig_iff b).1 (List.all_eq_true.1 ha b (by simp))
    have h45 : (b == 45) = false := beq_eq_false_iff_ne.2 (fun e => by subst e; have : (45 : UInt8).toNat = 45 := rfl; omega)
    have h43 : (b == 43) = false := beq_eq_false_iff_ne.2 (fun e => by subst e; have : (43 : UInt8).toNat = 43 := rfl; omega)
    show (if (b == 45) = true then (Lib.decNat r).map (fun (m : Nat) => -(m : Int)) else if (b == 43) = true then (Lib.decNat r).map (fun (m : Nat) => (m : Int)) else (Lib.decNat (b :: r)).map (fun (m : Nat) => (m : Int))) = some (n : Int)
    rw [h45, h43, if_neg (by simp), if_neg (by simp)]
    unfold Lib.decNat
    rw [hd, hv]
    rfl
theorem number_ok (n : Nat) (h : n ≤ 9999999999999) : sparse_number.f (tellN (n : Int)) = some ((n : Int), true) := by
  rw [tellN_nat n h]
  have hz := dd_13 n h
  have h1 : strconv_Atoi_45.f (tx (Lib.decDigits n)) = some ((n : Int), none) := by
    unfold strconv_Atoi_45.f
    rw [if_pos (by rw [tx_size]; omega), data_tx, atoi_dd]
    rfl
  have h2 : strconv_Itoa_34.f (n : Int) = some (tx (Lib.decDigits n)) := by
    unfold strconv_Itoa_34.f
    rw [if_pos ⟨by omega, by omega⟩]
    unfold Lib.itoa
    rw [if_neg (by omega)]
    rfl
  unfold sparse_number.f
  rw [h1, Option.bind_some]
  simp only
  rw [if_pos (show (none : Option Int).isNone = true from rfl), if_pos (by rw [tx_size]; omega), if_pos (by omega), h2, Option.bind_some]
  simp
/-! ### Parts -/
def Small (l : List S40) : Prop := ∀ p ∈ l, (0 ≤ p.f0 ∧ p.f0 ≤ 9999999999999) ∧ 0 ≤ p.f1 ∧ p.f1 ≤ 9999999999999
theorem parseGo_tell : ∀ (l out : List S40), Small l → out.length + l.length ≤ 1000 → parseGo (tellL l) false out = some (out ++ l, true)
  | [], out, _, hl => by
    show parseGo [] false out = _
    unfold parseGo
    rw [if_neg (by simp at hl; simp; omega), List.append_nil]
  | p :: l, out, h, hl => by
    obtain ⟨⟨a0, a1⟩, a2, a3⟩ := h p (by simp)
    obtain ⟨F0, F1⟩ := p
    simp only at a0 a1 a2 a3
    obtain ⟨m0, rfl⟩ : ∃ m : Nat, F0 = (m : Int) := ⟨F0.toNat, by omega⟩
    obtain ⟨m1, rfl⟩ : ∃ m : Nat, F1 = (m : Int) := ⟨F1.toNat, by omega⟩
    show parseGo (tellN (m0 : Int) :: tellN (m1 : Int) :: tellL l) false out = _
    have e1 : stepP false out (m0 : Int) = out ++ [⟨(m0 : Int), 0⟩] := by unfold stepP; simp
    have e2 : stepP true (out ++ [⟨(m0 : Int), 0⟩]) (m1 : Int) = out ++ [⟨(m0 : Int), (m1 : Int)⟩] := by
      unfold stepP
      rw [if_pos rfl, List.length_append, List.length_cons, List.length_nil, Nat.zero_add, Nat.add_sub_cancel]
      rw [List.set_append_right _ _ (Nat.le_refl _), Nat.sub_self, List.set_cons_zero]
      simp [List.getD]
    rw [parseGo, number_ok m0 (by omega), Option.bind_some]
    simp only [if_true, Bool.not_false]
    rw [parseGo, number_ok m1 (by omega), Option.bind_some]
    simp only [if_true, Bool.not_true]
    rw [e1, e2]
    have hp := parseGo_tell l (out ++ [(⟨(m0 : Int), (m1 : Int)⟩ : S40)]) (fun q hq => h q (by simp [hq])) (by simp at hl ⊢; omega)
    rw [List.append_assoc] at hp
    exact hp
theorem tell_mem (l : List S40) (h : Small l) : ∀ y ∈ (tellL l).map (·.data.toList), (∀ b ∈ y, b ≠ 44) ∧ y.length ≤ 13 ∧ y ≠ [] := by
  intro y hy
  obtain ⟨s, hs, rfl⟩ := List.mem_map.1 hy
  obtain ⟨p, hp, hsp⟩ := List.mem_flatMap.1 hs
  obtain ⟨⟨a0, a1⟩, a2, a3⟩ := h p hp
  have hx : ∀ x : Int, 0 ≤ x → x ≤ 9999999999999 → s = tellN x → (∀ b ∈ s.data.toList, b ≠ 44) ∧ s.data.toList.length ≤ 13 ∧ s.data.toList ≠ [] := by
    intro x x0 x1 e
    obtain ⟨n, rfl⟩ : ∃ m : Nat, x = (m : Int) := ⟨x.toNat, by omega⟩
    rw [e, tellN_nat n (by omega), data_tx]
    exact ⟨dd_plain n, dd_13 n (by omega), dd_ne n⟩
  unfold tellP at hsp
  simp only [List.mem_cons, List.mem_nil_iff, or_false] at hsp
  rcases hsp with e | e
  · exact hx _ a0 a1 e
  · exact hx _ a2 a3 e
theorem print_parse (l : List S40) (h : Small l) (hl : l.length ≤ 1000) : ∃ s, sparse_Print.f l = some s ∧ sparse_Parse.f s = some (l, true) := by
  refine ⟨joinC (tellL l), ?_, ?_⟩
  · unfold sparse_Print.f
    refine if_pos ⟨by omega, ?_⟩
    have hm := tell_mem l h
    have hn := tell_length l
    rw [← List.length_map (f := fun (x : ByteArray) => x.data.toList)] at hn
    cases hq : (tellL l).map (·.data.toList) with
    | nil => rw [Lib.join_nil]; simp
    | cons x r =>
      rw [hq] at hm hn
      have := join_len r x (fun y hy => (hm y hy).2.1)
      simp only [List.length_cons] at hn
      omega
  · unfold sparse_Parse.f
    have hm := tell_mem l h
    have hn := tell_length l
    have hp := parseGo_tell l [] h (by simpa using hl)
    rw [← List.length_map (f := fun (x : ByteArray) => x.data.toList)] at hn
    have hmap : ((tellL l).map (·.data.toList)).map tx = tellL l := by
      rw [List.map_map]
      conv => rhs; rw [← List.map_id (tellL l)]
      apply List.map_congr_left
      intro s _
      exact tx_toList s
    have hd : (joinC (tellL l)).data.toList = Lib.join ((tellL l).map (·.data.toList)) [44] := rfl
    have hsz : (joinC (tellL l)).size = (Lib.join ((tellL l).map (·.data.toList)) [44]).length := by rw [Lib.size_eq, hd]
    cases hq : (tellL l).map (·.data.toList) with
    | nil =>
      rw [hq] at hn hsz
      have hl0 : l = [] := List.eq_nil_of_length_eq_zero (by simp at hn; omega)
      rw [if_pos (by rw [hsz, Lib.join_nil]; simp), if_pos (by rw [hsz, Lib.join_nil]; rfl), hl0]
    | cons x r =>
      rw [hq] at hm hn hsz hd hmap
      have h13 := join_len r x (fun y hy => (hm y hy).2.1)
      have hx0 : 0 < x.length := List.length_pos_iff.2 (hm x (by simp)).2.2
      have hj0 : 0 < (Lib.join (x :: r) [44]).length := by rw [Lib.join_cons, List.length_append]; omega
      simp only [List.length_cons] at hn
      have hf : fieldsB (joinC (tellL l)) = tellL l := by
        unfold fieldsB
        rw [hd, splitC_join r x (fun y hy => (hm y hy).1)]
        exact hmap
      rw [if_pos (by omega), if_neg (by omega), hf, hp, List.nil_append]
end Go.Proofs.YtlnbkmlidmgbaaaDoor.P
